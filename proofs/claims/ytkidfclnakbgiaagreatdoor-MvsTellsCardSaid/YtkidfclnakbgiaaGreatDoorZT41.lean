/- The texts RefC, ROx0, ROx1, ROx in one file, without what these claims do not use (put together by prune2.py). -/
import Derived.Test.YtkidfclnakbgiaaGreatDoorZT40
import Derived.Test.YtkidfclnakbgiaaGreatDoorZT16
import Derived.Test.YtkidfclnakbgiaaGreatDoorZT23
import Derived.Test.YtkidfclnakbgiaaGreatDoorZT8
import Derived.Test.YtkidfclnakbgiaaGreatDoorZT9
section
namespace Go.Proofs.YtkidfclnakbgiaaGreatDoor
open Go Go.RowKit Go.Proofs.YtkidfclnakbgiaaGreatDoorW.PrintWords Go.Proofs.YtkidfclnakbgiaaGreatDoor.K0 Go.Proofs.YtkidfclnakbgiaaGreatDoor.R1 Go.Proofs.YtkidfclnakbgiaaGreatDoor.RD
set_option linter.unusedVariables false
set_option linter.unusedSimpArgs false
theorem split_data (c : UInt8) (s : ByteArray) : (splitBy c s).map (·.data.toList) = splitC c s.data.toList := by
  unfold splitBy
  rw [List.map_map]
  exact (List.map_congr_left fun x _ => ba_data x).trans (List.map_id _)
theorem bl_cb : ∀ a b : List UInt8, Op.bytesLess a b = decide (Lib.compareBytes a b = -1)
  | [], [] => rfl
  | [], _ :: _ => rfl
  | _ :: _, [] => rfl
  | a :: x, b :: y => by
    unfold Op.bytesLess Lib.compareBytes
    rw [bl_cb x y]
    by_cases h : a < b
    · rw [if_pos h, decide_eq_true h]; rfl
    · by_cases h2 : b < a
      · have hne : a ≠ b := by rintro rfl; exact h h2
        rw [if_neg h, if_pos h2, decide_eq_false h, beq_eq_false_iff_ne.mpr hne]; rfl
      · have he : a = b := UInt8.toNat_inj.1 (by
          have h1 : ¬ a.toNat < b.toNat := fun e => h (UInt8.lt_iff_toNat_lt.2 e)
          have h3 : ¬ b.toNat < a.toNat := fun e => h2 (UInt8.lt_iff_toNat_lt.2 e)
          omega)
        subst he
        rw [if_neg h, if_neg h2, decide_eq_false h]; simp
theorem ref_order_f (a b : Int) : armadaref07_order.f a b = some (Lib.compareInt a b) := by
  unfold armadaref07_order.f Lib.compareInt
  split
  · rfl
  · split <;> rfl
theorem less_val (a b : List UInt8) : (if Op.bytesLess a b = true then some (-1 : Int) else (if Op.bytesLess b a = true then some 1 else some 0)) = some (Lib.compareBytes a b) := by
  rw [bl_cb, bl_cb, cb_anti b a]
  rcases cb_range a b with h | h | h <;> rw [h] <;> rfl
theorem ref_words_f (a b : ByteArray) (ha : a.size ≤ 4294967280) (hb : b.size ≤ 4294967280) (k : Nat) (hk : a.size + b.size + 5 < k) : armadaref07_words.f k a b = some (wordCmp a.data.toList b.data.toList) := by
  obtain ⟨k, rfl⟩ : ∃ m, k = m + 3 := ⟨k - 3, by omega⟩
  unfold armadaref07_words.f wordCmp
  rw [ref_digits_f a (by omega) _ (by omega), ref_digits_f b (by omega) _ (by omega)]
  simp only [Option.bind_some]
  have hA := Lib.size_eq a
  have hB := Lib.size_eq b
  cases h1 : digitsOk a.data.toList <;> cases h2 : digitsOk b.data.toList <;>
    simp only [Bool.false_eq_true, if_false, if_true, armadaref07_words.j0, armadaref07_words.j1, armadaref07_words.j2, Bool.not_true, Bool.not_false]
  · rw [ByteArray.toList_eq, ByteArray.toList_eq, less_val]
  · by_cases hl : (a.size : Int) = (b.size : Int)
    · have e : ((a.size : Int) != (b.size : Int)) = false := bne_eq_false_iff_eq.mpr hl
      rw [e]
      simp only [Bool.false_eq_true, if_false]
      rw [ByteArray.toList_eq, ByteArray.toList_eq, less_val, ← hA, ← hB, (ci_eq _ _).2 hl]
      rfl
    · have e : ((a.size : Int) != (b.size : Int)) = true := bne_iff_ne.mpr hl
      rw [e]
      simp only [if_true]
      rw [ref_order_f, ← hA, ← hB]
      unfold orr
      rw [if_neg (fun h => hl ((ci_eq _ _).1 h))]
      rfl
/-- The order of lists of identifiers. -/
theorem ref_pre_l0 (l m : List ByteArray) (hl : l.length ≤ 4294967280) (hm : m.length ≤ 4294967280) (B : Nat) (hB : B ≤ 4294967280) (hx : ∀ x ∈ l, x.size ≤ B) (hy : ∀ x ∈ m, x.size ≤ B) : ∀ (d n k : Nat), l.length - n = d → n ≤ l.length → n ≤ m.length → 2 * d + 2 * B + 20 < k →
    armadaref07_pre.l0 k l m (n : Int) = some (listCmp ((l.drop n).map (·.data.toList)) ((m.drop n).map (·.data.toList))) := by
  intro d
  induction d with
  | zero =>
    intro n k hd hn hn2 hk
    obtain ⟨k, rfl⟩ : ∃ j, k = j + 2 := ⟨k - 2, by omega⟩
    simp only [armadaref07_pre.l0, armadaref07_pre.j2]
    rw [if_neg (by omega)]
    simp only [Bool.false_eq_true, if_false]
    rw [ref_order_f, List.drop_eq_nil_of_le (by omega)]
    by_cases h : n < m.length
    · obtain ⟨y, _, h2, _⟩ := rd_at (l := m) (n := n) h
      rw [h2]
      simp only [List.map_nil, List.map_cons, listCmp, Option.bind_some]
      unfold Lib.compareInt
      rw [if_pos (by omega)]
    · rw [List.drop_eq_nil_of_le (by omega)]
      simp only [List.map_nil, listCmp, Option.bind_some]
      rw [(ci_eq _ _).2 (by omega)]
  | succ d ih =>
    intro n k hd hn hn2 hk
    obtain ⟨k, rfl⟩ : ∃ j, k = j + 2 := ⟨k - 2, by omega⟩
    obtain ⟨x, h1, h2, h3⟩ := rd_at (l := l) (n := n) (by omega)
    have hxm : x ∈ l := List.mem_of_getElem? h3
    simp only [armadaref07_pre.l0, armadaref07_pre.j2]
    rw [if_pos (by omega), h2]
    by_cases h : n < m.length
    · obtain ⟨y, g1, g2, g3⟩ := rd_at (l := m) (n := n) h
      have hym : y ∈ m := List.mem_of_getElem? g3
      rw [decide_eq_true (by omega), if_pos rfl, if_pos (by omega), if_pos (by omega), if_pos (by omega), h1, g1, ref_words_f x y (by have := hx x hxm; omega) (by have := hy y hym; omega) k (by have := hx x hxm; have := hy y hym; omega), wrap_succ (by omega), ih (n + 1) k (by omega) (by omega) (by omega) (by omega), g2]
      simp only [Option.bind_some, List.map_cons, listCmp, orr]
      split <;> rfl
    · rw [decide_eq_false (by omega)]
      simp only [Bool.false_eq_true, if_false]
      rw [ref_order_f, List.drop_eq_nil_of_le (show m.length ≤ n by omega)]
      simp only [List.map_nil, List.map_cons, listCmp, Option.bind_some]
      unfold Lib.compareInt
      rw [if_neg (by omega), if_pos (by omega)]
theorem ref_pre_f (p q : ByteArray) (hp : p.size ≤ 30) (hq : q.size ≤ 30) (k : Nat) (hk : 300 < k) : armadaref07_pre.f k p q = some (preCmp p.data.toList q.data.toList) := by
  obtain ⟨k, rfl⟩ : ∃ j, k = j + 1 := ⟨k - 1, by omega⟩
  have hpe : (p.toList = ([] : List UInt8)) ↔ p.data.toList = [] := by rw [ByteArray.toList_eq]
  have hqe : (q.toList = ([] : List UInt8)) ↔ q.data.toList = [] := by rw [ByteArray.toList_eq]
  have e1 : (p.toList == ([] : List UInt8)) = decide (p.data.toList = []) := by rw [Bool.eq_iff_iff]; simp [hpe]
  have e2 : (q.toList == ([] : List UInt8)) = decide (q.data.toList = []) := by rw [Bool.eq_iff_iff]; simp [hqe]
  have hl := split_len 46 p
  have hl2 := split_len 46 q
  unfold armadaref07_pre.f preCmp
  by_cases h1 : p.data.toList = [] <;> by_cases h2 : q.data.toList = []
  · rw [if_pos (hpe.2 h1), if_pos h1, if_pos h2]
    simp only [armadaref07_pre.j0, if_true, e1, e2, h1, h2]
    rfl
  · rw [if_pos (hpe.2 h1), if_pos h1, if_neg h2]
    simp only [armadaref07_pre.j0, if_true, e1, e2, h1, decide_eq_false h2]
    rfl
  · rw [if_neg (fun h => h1 (hpe.1 h)), if_neg h1, if_pos h2]
    simp only [armadaref07_pre.j0, if_true, e1, e2, h2, decide_eq_false h1]
    rfl
  · rw [if_neg (fun h => h1 (hpe.1 h)), if_neg h1, if_neg h2, e2, decide_eq_false h2]
    simp only [armadaref07_pre.j0, Bool.false_eq_true, if_false]
    rw [show (46 : Int) = ((46 : UInt8).toNat : Int) from rfl, ref_split 46 p (by omega) k (by omega), ref_split 46 q (by omega) k (by omega)]
    simp only [Option.bind_some]
    rw [show (0 : Int) = ((0 : Nat) : Int) from rfl, ref_pre_l0 _ _ (by omega) (by omega) 30 (by omega) (fun x hx => by have := split_size hx; omega) (fun x hx => by have := split_size hx; omega) _ 0 k rfl (by omega) (by omega) (by omega)]
    rw [List.drop_zero, List.drop_zero, split_data, split_data]
theorem ref_Compare_f (a b c : Int) (p q : ByteArray) (a2 b2 c2 : Int) (p2 q2 : ByteArray) : Ev (fun k => armadaref07_Compare.f k a b c p q a2 b2 c2 p2 q2) (verCmp a b c p q a2 b2 c2 p2 q2) := by
  obtain ⟨K1, h1⟩ := ref_ver_Check_f a b c p q
  obtain ⟨K2, h2⟩ := ref_ver_Check_f a2 b2 c2 p2 q2
  refine ⟨max K1 K2 + 400, fun k hk => ?_⟩
  obtain ⟨k, rfl⟩ : ∃ j, k = j + 1 := ⟨k - 1, by omega⟩
  have e1 := h1 (k + 1) (by omega)
  have e2 := h2 (k + 1) (by omega)
  simp only at e1 e2
  show armadaref07_Compare.f (k + 1) a b c p q a2 b2 c2 p2 q2 = _
  unfold armadaref07_Compare.f verCmp
  simp only [e1, e2, Option.bind_some]
  cases v1 : verOk a b c p q
  · simp [armadaref07_Compare.j0]
  · cases v2 : verOk a2 b2 c2 p2 q2
    · simp [armadaref07_Compare.j0]
    · have s1 := (verIs v1).hp
      have s2 := (verIs v2).hp
      simp only [if_true, armadaref07_Compare.j0, Bool.not_true, Bool.false_eq_true, if_false, ref_order_f, ref_pre_f p p2 s1 s2 k (by omega), Option.bind_some]
      unfold orr
      by_cases x1 : a = a2
      · rw [if_pos x1, if_pos ((ci_eq _ _).2 x1)]
        by_cases x2 : b = b2
        · rw [if_pos x2, if_pos ((ci_eq _ _).2 x2)]
          by_cases x3 : c = c2
          · rw [if_pos x3, if_pos ((ci_eq _ _).2 x3)]
          · rw [if_neg x3, if_neg (fun h => x3 ((ci_eq _ _).1 h))]
        · rw [if_neg x2, if_neg (fun h => x2 ((ci_eq _ _).1 h))]
      · rw [if_neg x1, if_neg (fun h => x1 ((ci_eq _ _).1 h))]
end Go.Proofs.YtkidfclnakbgiaaGreatDoor
end

section
namespace Go.Proofs.YtkidfclnakbgiaaGreatDoor.RO
open Go.RowKit Go.Proofs.YtkidfclnakbgiaaGreatDoor Go.Proofs.YtkidfclnakbgiaaGreatDoor.K0 Go.Proofs.YtkidfclnakbgiaaGreatDoorW.PrintWords Go.Proofs.YtkidfclnakbgiaaGreatDoorW.PrintLast Go.Proofs.YtkidfclnakbgiaaGreatDoorW.PrintMore
attribute [local go_sem] max2_int min2_int max_two min_two max_three min_three max_four min_four
set_option linter.unusedVariables false
set_option linter.unusedSimpArgs false
end Go.Proofs.YtkidfclnakbgiaaGreatDoor.RO
end

section
namespace Go.Proofs.YtkidfclnakbgiaaGreatDoor.RO
open Go.RowKit Go.Proofs.YtkidfclnakbgiaaGreatDoor Go.Proofs.YtkidfclnakbgiaaGreatDoor.K0 Go.Proofs.YtkidfclnakbgiaaGreatDoorW.PrintWords Go.Proofs.YtkidfclnakbgiaaGreatDoorW.PrintLast Go.Proofs.YtkidfclnakbgiaaGreatDoorW.PrintMore
attribute [local go_sem] max2_int min2_int max_two min_two max_three min_three max_four min_four
set_option linter.unusedVariables false
set_option linter.unusedSimpArgs false
def armadalaw17_own.l0 : Nat → List (S46) → List (S48) → Int → Option ((List (S48)))
 | 0, _, _, _ => none
 | k + 1, x0, x3, x4 => if x4 < (x0.length : Int) then (if 0 ≤ x4 then (if x3.length < 1466015503701 then (armadalaw17_own.l0 k x0 (x3 ++ [(⟨(⟨(rd_T46 x0 x4).f0.f0, (⟨(rd_T46 x0 x4).f0.f1.f0, (rd_T46 x0 x4).f0.f1.f1, (rd_T46 x0 x4).f0.f1.f2, (rd_T46 x0 x4).f0.f1.f3, (rd_T46 x0 x4).f0.f1.f4⟩ : S25)⟩ : S27), (rd_T46 x0 x4).f1⟩ : S48)]) (wrap64 (x4 + 1))) else (none)) else (none)) else (some x3)
def armadalaw17_own.f (k : Nat) (l0 : List (S46)) : Option ((List (S48))) := armadalaw17_own.l0 k l0 ([] : List (S48)) 0
theorem armadalaw17_own.mono_l : ∀ k, (∀ y0 y1 y2, LeO (armadalaw17_own.l0 k y0 y1 y2) (armadalaw17_own.l0 (k + 1) y0 y1 y2))
 | 0 => fun _ _ _ r h => by simp [armadalaw17_own.l0] at h
 | k + 1 => by
  have ih0 := armadalaw17_own.mono_l k
  ·
   intro y0 y1 y2
   unfold armadalaw17_own.l0
   exact xM
theorem armadalaw17_own.mono : ∀ a0 k, LeO (armadalaw17_own.f k a0) (armadalaw17_own.f (k + 1) a0) := by
 intro a0 k
 have ih0 := armadalaw17_own.mono_l k
 unfold armadalaw17_own.f
 exact xM
set_option maxHeartbeats 8000000 in
set_option maxRecDepth 100000 in
theorem armadalaw17_own.calls (k : Nat) (P0_ : Nat → Prop) (A0 : Option Addr) (c0 : Nat) (l0 : List (S46)) (r : List (S48)) (w : World) (hs0 : Kd.V k46 46 w w.heap.size (fun k_ => P0_ k_) (.slice A0 l0.length c0) l0) (h : armadalaw17_own.f k l0 = some r) :
  Calls Tryz.prog 13 #[.slice A0 l0.length c0] w fun e w' => ∃ v0_ : Value, e = .returned (v0_) ∧ Kd.N k48 48 w' w.heap.size (fun k_ => (P0_ k_ ∨ w.heap.size ≤ k_)) v0_ r ∧ Below w.heap.size w w' := by
 have hu46 := Tryz.underlying46
 have HO0 := Aside0.mk (show Kd.V k46 46 w w.heap.size (fun k_ => (P0_ k_ ∨ w.heap.size ≤ k_)) (.slice A0 l0.length c0) l0 from Kd.V_mono hs0 (fun k_ hk => .inl hk))
 have HB := Aside0.mk (Below.refl w.heap.size w)
 have H : (armadalaw17_own.l0 k l0 ([] : List (S48)) 0) = some r := h
 clear h
 have H' := Aside0.mk H
 clear H
 go_enter Tryz.func13, Tryz.ntmps13
 go_wp2
 go_loopg [3, 4] k (fun kq v3 v4 w' => ∃ (x3_1 : List (S48)) (x4_1 : Int), v4 = .int .i64 x4_1 ∧ Aside0 (armadalaw17_own.l0 kq l0 x3_1 x4_1 = some r) ∧ Aside0 (kq ≤ k) ∧ Aside0 (Kd.V k46 46 w' w.heap.size (fun k_ => (P0_ k_ ∨ w.heap.size ≤ k_) ∧ some k_ ≠ (v3 : Value).ownBlock) (.slice A0 l0.length c0) l0) ∧ Aside0 (Kd.N k48 48 w' w.heap.size (fun k_ => (P0_ k_ ∨ w.heap.size ≤ k_)) v3 x3_1) ∧ Aside0 (Below w.heap.size w w'))
 case atStart => exact ⟨(([] : List (S48))), (0), xR, H', ⟨Nat.le_refl _⟩, ⟨by (with_reducible repeat (first | apply Kd.V_alloc | apply Kd.V_drewN | apply Kd.V_drew)); exact Kd.V_mono HO0.out (fun _ hk => ⟨hk, (by simp [Value.ownBlock])⟩)⟩, ⟨by first | exact Kd.S_nil _ _ _ _ _ | exact Kd.N_nil _ _ _ _ _ | exact Kd.V_nil _ _ _ _ _ | exact Kd.Q_nil _ _ _ _ _ | exact Kd.R_nil _ _ _ _ _⟩, ⟨xB⟩⟩
 case round =>
  clear H'
  try clear c1
  obtain ⟨x3_1, x4_1, rfl, HA, HK1, HO_0, HO_3, HB⟩ := hrel
  cases gk with
  | zero => exact absurd HA.out (by simp [armadalaw17_own.l0])
  | succ k1 =>
   have H := HA.out
   clear HA
   simp only [armadalaw17_own.l0] at H
   by_cases c2 : x4_1 < (l0.length : Int)
   ·
    rw [if_pos c2] at H
    have c2b0 := decide_eq_true c2
    clear c2
    replace H := xI H
    obtain ⟨c3, H⟩ := H
    have c3b0 := decide_eq_true c3
    clear c3
    replace H := xI H
    obtain ⟨c4, H⟩ := H
    have LMc4 := Aside0.mk c4
    clear c4
    obtain ⟨y102, hy102⟩ : ∃ y_ : List (S48), y_ = (x3_1 ++ [(⟨(⟨(rd_T46 l0 x4_1).f0.f0, (⟨(rd_T46 l0 x4_1).f0.f1.f0, (rd_T46 l0 x4_1).f0.f1.f1, (rd_T46 l0 x4_1).f0.f1.f2, (rd_T46 l0 x4_1).f0.f1.f3, (rd_T46 l0 x4_1).f0.f1.f4⟩ : S25)⟩ : S27), (rd_T46 l0 x4_1).f1⟩ : S48)]) := ⟨_, rfl⟩
    replace H : (armadalaw17_own.l0 k1 l0 y102 (wrap64 (x4_1 + 1))) = some r := by first | (rw [hy102]; with_reducible exact H) | (have H2_ := (Option.bind_some _ _).symm.trans H; rw [hy102]; with_reducible exact H2_) | (have H2_ := (Option.bind_some _ _).symm.trans H; with_reducible exact H2_) | with_reducible exact H | (rw [hy102]; exact H) | exact H
    have Ny102 := Aside0.mk hy102
    clear hy102
    have H' := Aside0.mk H
    clear H
    have p101 : 0 ≤ (x4_1 : Int) := xD
    have q101 : x4_1 < (l0.length : Int) := xD
    obtain ⟨ad101, A101_6, c101_6, e101, hx101_0, hx101_1, hx101_2, hx101_3, hx101_4, hx101_5, hx101_6, hl101_6, hi101_6⟩ := at_T46 (Kd.V_reads' HO_0.out).2.2 x4_1 p101 q101
    cases e101
    obtain ⟨ce101, hce101, hMe101, hcc101⟩ := Kd.V_get HO_0.out z46 x4_1 p101 (by first | exact q101 | exact xD | (have e_ := (Kd.V_reads' HO_0.out).1; omega))
    obtain ⟨ua101_6, uc101_6, rfl, ul101_6, ge101_6⟩ := k46_openF hMe101
    have hv101_6 := hcc101 6 _ rfl
    rw [add_field _ _ 6 (by omega)] at hv101_6
    replace hv101_6 := Option.some.inj (hv101_6.symm.trans hx101_6)
    injection hv101_6 with hva_ hvn_ hvc_
    rw [hva_] at ge101_6
    rw [hvc_] at ul101_6
    have HL101_6 := Aside0.mk (show Kd.V k27 27 _ w.heap.size _ _ ((rd_T46 l0 x4_1).f1) from Kd.V_mk ul101_6 ge101_6)
    clear hva_ hvn_ hvc_ ge101_6 ul101_6
    clear hcc101 hce101
    have HR101_6 := Aside0.mk hi101_6
    have HC101_6 := Aside0.mk hl101_6
    clear hi101_6 hl101_6
    replace p101 := eq_true p101
    replace q101 := eq_true q101
    go_wp2_with (first | ((with_reducible refine gate_builtin (b := .append) (xs := #[.tmp 11, .tmp 16]) rfl ?_); at_builtin; refine Kd.N_append k48 (w0 := w) w.heap.size rfl (.tmp 11) (.tmp 16) 30 48 (.agg #[(.string ⟨#[]⟩), (.int .i64 0), (.int .i64 0), (.int .i64 0), (.string ⟨#[]⟩), (.string ⟨#[]⟩), (.slice none 0 0)]) 96 rfl Tryz.underlying30 info48 rfl (by decide) (by omega) u3 x3_1 (⟨(⟨(rd_T46 l0 x4_1).f0.f0, (⟨(rd_T46 l0 x4_1).f0.f1.f0, (rd_T46 l0 x4_1).f0.f1.f1, (rd_T46 l0 x4_1).f0.f1.f2, (rd_T46 l0 x4_1).f0.f1.f3, (rd_T46 l0 x4_1).f0.f1.f4⟩ : S25)⟩ : S27), (rd_T46 l0 x4_1).f1⟩ : S48) [.string ((rd_T46 l0 x4_1).f0.f0), .int .i64 ((rd_T46 l0 x4_1).f0.f1.f0), .int .i64 ((rd_T46 l0 x4_1).f0.f1.f1), .int .i64 ((rd_T46 l0 x4_1).f0.f1.f2), .string ((rd_T46 l0 x4_1).f0.f1.f3), .string ((rd_T46 l0 x4_1).f0.f1.f4), .slice A101_6 ((rd_T46 l0 x4_1).f1).length c101_6] (fun k_ => (P0_ k_ ∨ w.heap.size ≤ k_)) (fun k_ => ((fun k_ => (P0_ k_ ∨ w.heap.size ≤ k_))) k_ ∧ some k_ ≠ (u3 : Value).ownBlock) rfl rfl ?aP (fun _ hk => hk) ?aF ?aO ?aB ?aS ?aL ?_; (case aP => exact (k48_mkF _ _ (⟨(⟨(rd_T46 l0 x4_1).f0.f0, (⟨(rd_T46 l0 x4_1).f0.f1.f0, (rd_T46 l0 x4_1).f0.f1.f1, (rd_T46 l0 x4_1).f0.f1.f2, (rd_T46 l0 x4_1).f0.f1.f3, (rd_T46 l0 x4_1).f0.f1.f4⟩ : S25)⟩ : S27), (rd_T46 l0 x4_1).f1⟩ : S48) (Kd.V_reads' (Kd.V_mono (ok' := (fun k_ => ((fun k_ => (P0_ k_ ∨ w.heap.size ≤ k_))) k_ ∧ some k_ ≠ (u3 : Value).ownBlock)) (HL101_6.out) (fun k_ hk => ⟨hk.1, hk.2⟩))).2.1 (Kd.V_F (Kd.V_mono (ok' := (fun k_ => ((fun k_ => (P0_ k_ ∨ w.heap.size ≤ k_))) k_ ∧ some k_ ≠ (u3 : Value).ownBlock)) (HL101_6.out) (fun k_ hk => ⟨hk.1, hk.2⟩))))); (case aB => exact xB); (case aF => exact (fun k_ hk => (.inr (Nat.le_trans (below_size xB) hk)))); (case aO => exact (by (with_reducible repeat (first | apply Kd.N_alloc | apply Kd.N_drewN | apply Kd.N_drew)); exact HO_3.out)); (case aS => exact (below_size xB)); (case aL => have := LMc4.out; omega); intro v103 w5 ho hb hg hat; rw [← Ny102.out] at ho; replace HO_0 := Aside0.mk (Kd.V_afterv (ok := (fun k_ => (P0_ k_ ∨ w.heap.size ≤ k_))) (by (with_reducible repeat (first | apply Kd.V_alloc | apply Kd.V_drewN | apply Kd.V_drew)); exact HO_0.out) hg hat); replace HL101_6 := Aside0.mk (Kd.V_afterv (ok := (fun k_ => (P0_ k_ ∨ w.heap.size ≤ k_))) (by (with_reducible repeat (first | apply Kd.V_alloc | apply Kd.V_drewN | apply Kd.V_drew)); exact HL101_6.out) hg hat); have HO104 := Aside0.mk (ho); replace HB := Aside0.mk (hb); clear HO_3; clear ho hb hg hat))
    go_roundg k1
    case measure => have := HK1.out; omega
    case rel => exact ⟨(y102), (wrap64 (x4_1 + 1)), xR, H', ⟨by have := HK1.out; omega⟩, ⟨by (with_reducible repeat (first | apply Kd.V_alloc | apply Kd.V_drewN | apply Kd.V_drew)); exact HO_0.out⟩, ⟨by (with_reducible repeat (first | apply Kd.N_alloc | apply Kd.N_drewN | apply Kd.N_drew)); exact HO104.out⟩, ⟨xB⟩⟩
   rw [if_neg c2] at H
   have c2b0 := decide_eq_false c2
   clear c2
   obtain rfl := Option.some.inj H
   go_wp2
   go_ret
   exact ⟨_, by first | rfl | (simp [errW_none, errW_some] <;> rfl) | (simp [*, errW_none, errW_some] <;> rfl) | (simp [isEmpty_bne]; done), by (with_reducible repeat (first | apply Kd.N_alloc | apply Kd.N_drewN | apply Kd.N_drew)); exact HO_3.out, xB⟩
end Go.Proofs.YtkidfclnakbgiaaGreatDoor.RO
end

section
namespace Go.Proofs.YtkidfclnakbgiaaGreatDoor.RO
open Go.RowKit Go.Proofs.YtkidfclnakbgiaaGreatDoor Go.Proofs.YtkidfclnakbgiaaGreatDoor.K0 Go.Proofs.YtkidfclnakbgiaaGreatDoorW.PrintWords Go.Proofs.YtkidfclnakbgiaaGreatDoorW.PrintLast Go.Proofs.YtkidfclnakbgiaaGreatDoorW.PrintMore
attribute [local go_sem] max2_int min2_int max_two min_two max_three min_three max_four min_four
set_option linter.unusedVariables false
set_option linter.unusedSimpArgs false
end Go.Proofs.YtkidfclnakbgiaaGreatDoor.RO
end
