/- The texts BpEdits, RDx0 in one file, without what these claims do not use (put together by prune2.py). -/
import Derived.Test.YtillhaipemengaaGreatDoorZU18
import Derived.Test.YtillhaipemengaaGreatDoorZU4
import Derived.Test.YtillhaipemengaaGreatDoorZU8
import Derived.Test.YtillhaipemengaaGreatDoorZU9
section
namespace Go.Proofs.YtillhaipemengaaGreatDoor
open Go Go.RowKit Go.Sort Go.Proofs Go.Proofs.YtillhaipemengaaGreatDoorW.PrintWords Go.Proofs.YtillhaipemengaaGreatDoorW.PrintLast Go.Proofs.YtillhaipemengaaGreatDoor.K0
set_option linter.unusedVariables false
set_option linter.unusedSimpArgs false
def edc.T1 : Bool × List (List Nat × List Nat) := (true, [([], []), ([0], [0]), ([1], [1]), ([2], [2]), ([3], [3]), ([4, 3], [3, 4]), ([3], [3]), ([6, 3], [3, 6]), ([5, 7, 3], [3, 5, 7]), ([3, 8], [3, 8]), ([9, 3], [9]), ([10], [10]), ([10], [10]), ([12, 10], [10, 12]), ([11, 13, 10], [10, 11, 13]), ([14, 10], [10, 14]), ([15, 10], [10, 15]), ([10], [10]), ([17, 10], [10, 17]), ([16, 18, 10], [10, 16, 18]), ([10, 19], [10, 19]), ([20, 10, 0, 1, 2, 3, 4, 5, 6, 7, 8, 9, 10, 11, 12, 13, 14, 15, 16, 17, 18, 19, 20], [20])])
def edc.B1 : List Nat := [0, 1, 3, 7, 15, 31, 15, 79, 255, 511, 1023, 2047, 2047, 6143, 16383, 32767, 65535, 2047, 133119, 524287, 1048575, 2097151]
theorem edc.tab1 : rtab .any (opsOf Tryz.f50 1) = edc.T1 := by kernel_rfl
theorem edc.bits1 : waitsOk edc.T1.2 edc.B1 = true := by kernel_rfl
set_option maxRecDepth 100000 in
set_option maxHeartbeats 4000000 in
theorem hit_clo (A0 : Option Addr) (c0 : Nat) (l : List Md) (Bm Bq : Nat) (p : ByteArray) (r : Rl) (W : World) (hr : Kd.C k63 W A0 l.length l) (hm : W.cell? ⟨Bm, 0, none⟩ = some (.slice A0 l.length c0)) (hq : W.cell? ⟨Bq, 0, none⟩ = some (.string p)) :
    Calls Tryz.prog 50 #[.agg (rlc r), .pointer (some ⟨Bm, 0, none⟩), .pointer (some ⟨Bq, 0, none⟩)] W fun e w' => e = .returned (.bool (hit l p r)) ∧ Below W.heap.size W w' := by
  have x0 : (W.alloc (.cells (rlc r) 30)).cell? ⟨W.heap.size, 0, none⟩ = some (.int .i64 r.f0) := cell_new W _ _ 0 _ rfl
  have m1 := below_cell (below_alloc (Below.refl _ W) (.cells (rlc r) 30)) hm
  have q1 := below_cell (below_alloc (Below.refl _ W) (.cells (rlc r) 30)) hq
  have hr1 := Kd.C_alloc hr (.cells (rlc r) 30)
  unfold hit
  by_cases h0 : 0 ≤ r.f0
  · by_cases h1 : r.f0 < (l.length : Int)
    · rw [decide_eq_true h0, decide_eq_true h1, Bool.true_and, Bool.true_and]
      obtain ⟨ad, A2, c2, hA, u0, u1, u2, _, _⟩ := at_T63 hr1 r.f0 h0 h1
      obtain ⟨i, hi⟩ : ∃ i : Nat, r.f0 = (i : Int) := ⟨r.f0.toNat, by omega⟩
      have hxe : rd_T63 l r.f0 = l.getD r.f0.toNat zm := rfl
      rw [hxe] at u1
      subst hA
      rw [← tl_eq]
      generalize l.getD r.f0.toNat zm = m at u1 ⊢
      have hz : r.f0.toNat = i := by omega
      rw [hz] at u1
      obtain ⟨f0, f1, f2, f3, f4⟩ := r
      simp only at hi h0 h1 x0
      subst hi
      generalize l.length = n at *
      clear hr hr1 u0 u2 hxe hm hq hz
      go_enter Tryz.func50, Tryz.ntmps50
      go_wp2
      refine sX (ds := []) (S := fun w' => w'.cell? ⟨W.heap.size, 0, none⟩ = some (.int .i64 (i : Int)) ∧ w'.cell? ⟨Bm, 0, none⟩ = some (.slice (some ad) n c0) ∧ w'.cell? ⟨Bq, 0, none⟩ = some (.string p) ∧ w'.cell? ⟨(ad.add (i * 3)).block, (ad.add (i * 3)).off + 1, none⟩ = some (.string m.f1)) edc.tab1 edc.bits1 ⟨x0, m1, q1, u1⟩ (fun HT_ HW_ hHeld => ?_)
      have HB := Aside0.mk (below_drew1 (below_alloc (Below.refl W.heap.size W) (.cells (rlc ⟨(i : Int), f1, f2, f3, f4⟩) 30)))
      generalize World.drew _ = W1 at HB hHeld ⊢
      refine pX HT_ 0 1 5 ?_
      refine tX HT_ HW_ hHeld 1 3 6 ?_
      refine pX HT_ 2 7 7 ?_
      refine pX HT_ 3 15 8 ?_
      refine pX HT_ 4 31 9 ?_
      refine tX HT_ HW_ hHeld 5 63 10 ?_
      refine tX HT_ HW_ hHeld 6 127 11 ?_
      refine pX HT_ 7 255 12 ?_
      refine pX HT_ 8 511 13 ?_
      refine pX HT_ 9 1023 14 ?_
      refine pX HT_ 10 2047 15 ?_
      refine pX HT_ 12 6143 17 ?_
      refine pX HT_ 17 137215 22 ?_
      refine tX HT_ HW_ hHeld 11 139263 16 ?_
      refine tX HT_ HW_ hHeld 13 147455 18 ?_
      refine pX HT_ 14 163839 19 ?_
      refine pX HT_ 15 196607 20 ?_
      refine tX HT_ HW_ hHeld 16 262143 21 ?_
      refine tX HT_ HW_ hHeld 18 524287 23 ?_
      refine pX HT_ 19 1048575 24 ?_
      refine pX HT_ 20 2097151 25 ?_
      refine pX HT_ 21 4194303 4 ?_
      refine eX HT_ ?_
      clear HT_ HW_ hHeld
      go_wp2
      go_ret
      exact ⟨rfl, HB.out⟩
    · rw [decide_eq_true h0, decide_eq_false h1, Bool.true_and, Bool.false_and]
      generalize l.length = n at *
      clear hr hr1 hm hq
      go_enter Tryz.func50, Tryz.ntmps50
      go_wp2
      have hlt : (r.f0 < (n : Int)) = False := eq_false (by omega)
      refine sX (ds := []) (S := fun w' => w'.cell? ⟨W.heap.size, 0, none⟩ = some (.int .i64 r.f0) ∧ w'.cell? ⟨Bm, 0, none⟩ = some (.slice A0 n c0) ∧ w'.cell? ⟨Bq, 0, none⟩ = some (.string p)) edc.tab1 edc.bits1 ⟨x0, m1, q1⟩ (fun HT_ HW_ hHeld => ?_)
      have HB := Aside0.mk (below_drew1 (below_alloc (Below.refl W.heap.size W) (.cells (rlc r) 30)))
      generalize World.drew _ = W1 at HB hHeld ⊢
      refine pX HT_ 0 1 5 ?_
      refine tX HT_ HW_ hHeld 1 3 6 ?_
      refine pX HT_ 2 7 7 ?_
      refine pX HT_ 3 15 8 ?_
      refine pX HT_ 4 31 9 ?_
      refine tX HT_ HW_ hHeld 5 63 10 ?_
      refine tX HT_ HW_ hHeld 6 127 11 ?_
      refine pX HT_ 7 255 12 ?_
      refine pX HT_ 8 511 13 ?_
      refine pX HT_ 9 1023 14 ?_
      refine pX HT_ 10 2047 15 ?_
      refine fX HT_ 11 4095 16 ?_
      refine fX HT_ 12 8191 17 ?_
      refine fX HT_ 13 16383 18 ?_
      refine fX HT_ 14 32767 19 ?_
      refine fX HT_ 15 65535 20 ?_
      refine fX HT_ 16 131071 21 ?_
      refine fX HT_ 17 262143 22 ?_
      refine fX HT_ 18 524287 23 ?_
      refine fX HT_ 19 1048575 24 ?_
      refine pX HT_ 20 2097151 25 ?_
      refine pX HT_ 21 4194303 4 ?_
      refine eX HT_ ?_
      clear HT_ HW_ hHeld
      go_wp2
      go_ret
      exact ⟨rfl, HB.out⟩
  · rw [decide_eq_false h0, Bool.false_and]
    generalize l.length = n at *
    clear hr hr1 hm hq
    go_enter Tryz.func50, Tryz.ntmps50
    go_wp2
    have hge : (0 ≤ r.f0) = False := eq_false (by omega)
    refine sX (ds := []) (S := fun w' => w'.cell? ⟨W.heap.size, 0, none⟩ = some (.int .i64 r.f0) ∧ w'.cell? ⟨Bm, 0, none⟩ = some (.slice A0 n c0) ∧ w'.cell? ⟨Bq, 0, none⟩ = some (.string p)) edc.tab1 edc.bits1 ⟨x0, m1, q1⟩ (fun HT_ HW_ hHeld => ?_)
    have HB := Aside0.mk (below_drew1 (below_alloc (Below.refl W.heap.size W) (.cells (rlc r) 30)))
    generalize World.drew _ = W1 at HB hHeld ⊢
    refine pX HT_ 0 1 5 ?_
    refine tX HT_ HW_ hHeld 1 3 6 ?_
    refine pX HT_ 2 7 7 ?_
    refine pX HT_ 3 15 8 ?_
    refine fX HT_ 4 31 9 ?_
    refine fX HT_ 5 63 10 ?_
    refine fX HT_ 6 127 11 ?_
    refine fX HT_ 7 255 12 ?_
    refine fX HT_ 8 511 13 ?_
    refine pX HT_ 9 1023 14 ?_
    refine pX HT_ 10 2047 15 ?_
    refine fX HT_ 11 4095 16 ?_
    refine fX HT_ 12 8191 17 ?_
    refine fX HT_ 13 16383 18 ?_
    refine fX HT_ 14 32767 19 ?_
    refine fX HT_ 15 65535 20 ?_
    refine fX HT_ 16 131071 21 ?_
    refine fX HT_ 17 262143 22 ?_
    refine fX HT_ 18 524287 23 ?_
    refine fX HT_ 19 1048575 24 ?_
    refine pX HT_ 20 2097151 25 ?_
    refine pX HT_ 21 4194303 4 ?_
    refine eX HT_ ?_
    clear HT_ HW_ hHeld
    go_wp2
    go_ret
    exact ⟨rfl, HB.out⟩
abbrev rqc (r : Rq) : Array Value := #[.string r.f0, .int .i64 r.f1.f0, .int .i64 r.f1.f1, .int .i64 r.f1.f2, .string r.f1.f3, .string r.f1.f4]
theorem fnd {α : Type} (p : α → Bool) : ∀ (l : List α) (k : Nat), (idxFrom p k l = -1 ∧ l.find? p = none) ∨ ∃ (i : Nat) (x : α), l[i]? = some x ∧ idxFrom p k l = ((k + i : Nat) : Int) ∧ l.find? p = some x
  | [], k => .inl ⟨rfl, rfl⟩
  | x :: l, k => by
    unfold idxFrom
    rw [List.find?_cons]
    cases h : p x
    · rw [if_neg (by simp)]
      rcases fnd p l (k + 1) with ⟨h1, h2⟩ | ⟨i, y, h1, h2, h3⟩
      · exact .inl ⟨h1, h2⟩
      · exact .inr ⟨i + 1, y, by simpa using h1, by rw [h2]; congr 1; omega, h3⟩
    · exact .inr ⟨0, x, rfl, by simp, rfl⟩
theorem editGo_snoc (l : List Md) (rs : List Rl) : ∀ (a : List Rq) (q : Rq), editGo l rs (a ++ [q]) = editGo l rs a ++ (match rs.find? (hit l q.f0) with | some r => [⟨q.f0, r.f3⟩] | none => [])
  | [], q => by
    show _ ++ [] = [] ++ _
    rw [List.append_nil, List.nil_append]
    rfl
  | x :: a, q => by
    show _ ++ editGo l rs (a ++ [q]) = (_ ++ editGo l rs a) ++ _
    rw [editGo_snoc l rs a q, List.append_assoc]
theorem editGo_len (l : List Md) (rs : List Rl) : ∀ (a : List Rq), (editGo l rs a).length ≤ a.length
  | [] => Nat.le_refl _
  | x :: a => by
    have := editGo_len l rs a
    show (_ ++ editGo l rs a).length ≤ _
    rw [List.length_append, List.length_cons]
    split <;> simp <;> omega
def edt.T9 : Bool × List (List Nat × List Nat) := (true, [([], []), ([], []), ([1], [1]), ([], []), ([], []), ([3, 4], [3, 4]), ([5], [5]), ([6], [6]), ([2, 7], [2, 7]), ([8], [8]), ([0, 9], [0, 9]), ([10, 10, 0, 1, 2, 3, 4, 5, 6, 7, 8, 9, 10], [0, 10])])
def edt.B9 : List Nat := [0, 0, 2, 0, 0, 24, 56, 120, 254, 510, 1023, 2047]
theorem edt.tab9 : rtab .any (opsOf Tryz.f21 9) = edt.T9 := by kernel_rfl
theorem edt.bits9 : waitsOk edt.T9.2 edt.B9 = true := by kernel_rfl
set_option maxRecDepth 100000 in
set_option maxHeartbeats 4000000 in
theorem edits_calls (A0 A1 : Option Addr) (c0 c1 : Nat) (l : List Md) (rs : List Rl) (z : Int) (w : World) (hr0 : Kd.C k63 w A0 l.length l) (hr1 : Kd.C k30 w A1 rs.length rs) (hs : ∀ m ∈ l, m.f2.length ≤ 1000000000) :
    Calls Tryz.prog 21 #[.slice A0 l.length c0, .slice A1 rs.length c1, .int .i64 z] w fun e w' => ∃ v0_ : Value, e = .returned v0_ ∧ Kd.R k69 69 w' w.heap.size (fun _ => True) v0_ (editsOf l rs z) ∧ Below w.heap.size w w' := by
  have b0 := cell_new w #[.slice A0 l.length c0] 38 0 _ rfl
  unfold editsOf
  by_cases h0 : 0 ≤ z
  · rw [if_pos h0]
    by_cases h1 : z < (l.length : Int)
    · rw [if_pos h1]
      obtain ⟨i, rfl⟩ : ∃ i : Nat, z = (i : Int) := ⟨z.toNat, by omega⟩
      obtain ⟨m, hm⟩ : ∃ m, l[i]? = some m := ⟨_, List.getElem?_eq_getElem (by omega)⟩
      have hms := hs m (List.mem_of_getElem? hm)
      obtain ⟨W0, hW0⟩ : ∃ W0, w.alloc (.cells #[.slice A0 l.length c0] 38) = W0 := ⟨_, rfl⟩
      have hs0 : W0.heap.size = w.heap.size + 1 := by rw [← hW0]; simp
      have hb0 : Below w.heap.size w W0 := by rw [← hW0]; exact below_alloc (Below.refl _ _) _
      obtain ⟨ad, A2, c2, hA, u0, u1, u2, hc2, hC2⟩ := at_T63 (Kd.C_below hr0 hb0) (i : Int) (by omega) h1
      have hxe : rd_T63 l (i : Int) = m := by
        unfold rd_T63
        rw [Int.toNat_natCast, List.getD_eq_getElem?_getD, hm]; rfl
      rw [hxe] at u2 hc2 hC2
      rw [Int.toNat_natCast] at u2
      have hgd : l.getD ((i : Int)).toNat zm = m := hxe
      rw [hgd]
      subst hA
      rw [hW0] at b0
      have HIDX := Aside0.mk (fun (q : Rq) (W : World) (Bq : Nat) (hb : Below W0.heap.size W0 W) (hq : W.cell? ⟨Bq, 0, none⟩ = some (.string q.f0)) => IndexFunc_Rel A1 c1 rs (hit l q.f0) 50 #[.pointer (some ⟨w.heap.size, 0, none⟩), .pointer (some ⟨Bq, 0, none⟩)] (enters_of Tryz.func50 (by kernel_rfl) rfl) W (Kd.C_below hr1 (hb0.trans (hb.mono (by omega)))) (fun j x hx W' hb' cs hK => by
        obtain rfl := k30_open hK
        exact hit_clo (some ad) c0 l w.heap.size Bq q.f0 x W' (Kd.C_below hr0 (below_step (hb0.trans (hb.mono (by omega))) hb')) (below_cell hb' (below_cell hb b0)) (below_cell hb' hq)))
      have HREL := Aside0.mk (fun (W : World) (hb : Below W0.heap.size W0 W) => Kd.C_below hr1 (hb0.trans (hb.mono (by omega))))
      have HREQ := Aside0.mk hC2
      have HB0 := Aside0.mk hb0
      have HS0 := Aside0.mk hs0
      obtain ⟨reqs, hrq⟩ : ∃ reqs, m.f2 = reqs := ⟨_, rfl⟩
      rw [hrq] at u2 hc2 HREQ hms ⊢
      have hCm := HREQ.out.2.1
      obtain ⟨n, hn⟩ : ∃ n, reqs.length = n := ⟨_, rfl⟩
      rw [hn] at u2 hc2 HREQ hCm hms
      have HN := Aside0.mk hn
      have HES := Aside0.mk (fun (k : Nat) (q : Rq) (h : reqs[k]? = some q) => (show editGo l rs (reqs.take (k + 1)) = editGo l rs (reqs.take k) ++ (match rs.find? (hit l q.f0) with | some r => [⟨q.f0, r.f3⟩] | none => []) from by rw [List.take_add_one, h]; exact editGo_snoc l rs (reqs.take k) q))
      have HEL := Aside0.mk (fun (k : Nat) => editGo_len l rs (reqs.take k))
      have HEA : Aside0 (editGo l rs reqs = editGo l rs (reqs.take n)) := ⟨by rw [← hn, List.take_length]⟩
      have hrz : (rs.length : Int) ≤ 9223372036854775807 := by have := hr1.2.1; omega
      generalize hnl : l.length = nl at *
      have HB0' := HB0
      clear HB0'
      subst hW0
      clear hr0 hr1 hs hm u0 u1 hxe hgd hC2 hb0 hs0 hrq hn hnl
      have hnle : (nl ≤ i) = False := eq_false (by omega)
      have hnlz : ((nl : Int) ≤ (i : Int)) = False := eq_false (by omega)
      go_enter Tryz.func21, Tryz.ntmps21
      go_wp2
      generalize hW0' : w.alloc (.cells #[.slice (some ad) nl c0] 38) = W0 at *
      go_loopg [7, 25] n (fun gg v7 v25 wr => ∃ kk : Nat, kk ≤ n ∧ n - kk ≤ gg ∧ v25 = .int .i64 kk ∧ Aside0 (Kd.R k69 69 wr W0.heap.size (fun _ => True) v7 (editGo l rs (reqs.take kk))) ∧ Aside0 (Below W0.heap.size W0 wr))
      case atStart => exact ⟨0, Nat.zero_le _, by omega, rfl, ⟨Kd.R_nil _ _ _ _ _⟩, ⟨Below.refl _ _⟩⟩
      case round =>
        obtain ⟨kk, hkk, hg, rfl, HO, HB⟩ := hrel
        by_cases hlt : kk < n
        · have hltz : (kk : Int) < (n : Int) := by omega
          obtain ⟨q, hq⟩ : ∃ q, reqs[kk]? = some q := ⟨_, List.getElem?_eq_getElem (by have := HN.out; omega)⟩
          have hqe : rd_T69 reqs (kk : Int) = q := by
            unfold rd_T69
            rw [Int.toNat_natCast, List.getD_eq_getElem?_getD, hq]; rfl
          obtain ⟨aq, hAq, h0, h1, h2, h3, h4, h5⟩ := at_T69 (Kd.C_below HREQ.out HB.out) (kk : Int) (by omega) hltz
          rw [hqe, Int.toNat_natCast] at h0 h1 h2 h3 h4 h5
          have HQ1 := Aside0.mk (heap_alloc_new wr (.cells (rqc q) 69))
          have hidx := HIDX.out q (wr.alloc (.cells (rqc q) 69)) wr.heap.size (below_alloc HB.out _) ((blk_cell HQ1.out 0).trans rfl)
          have hes := HES.out kk q hq
          have HEL2 := Aside0.mk (HEL.out kk)
          have HNB := Aside0.mk (Kd.R_lt HO.out)
          have HO1 := Aside0.mk (Kd.R_alloc HO.out (.cells (rqc q) 69))
          have HB1 := Aside0.mk (below_alloc HB.out (.cells (rqc q) 69))
          have HTK : Aside0 ((reqs.take kk).length ≤ 1000000000) := ⟨by rw [List.length_take]; omega⟩
          clear hqe hq
          subst hAq
          rcases fnd (hit l q.f0) rs 0 with ⟨e1, e2⟩ | ⟨j, r, hj, e1, e2⟩
          · rw [e1] at hidx
            have HE2 : Aside0 (editGo l rs (reqs.take (kk + 1)) = editGo l rs (reqs.take kk)) := ⟨by rw [hes, e2, List.append_nil]⟩
            clear e1 e2 hes
            go_wp2_with (go_at_call 49; refine hidx.mono ?_; rintro e w2 ⟨rfl, hb⟩; have HO2 := Aside0.mk (Kd.R_below HO1.out hb); have HB2 := Aside0.mk (below_step HB1.out hb); clear hb)
            go_roundg (n - (kk + 1))
            case measure => omega
            case rel => exact ⟨kk + 1, by omega, by omega, by go_num, ⟨by rw [HE2.out]; exact HO2.out⟩, HB2⟩
          · rw [e1, Nat.zero_add] at hidx
            have HE2 : Aside0 (editGo l rs (reqs.take (kk + 1)) = editGo l rs (reqs.take kk) ++ [⟨q.f0, r.f3⟩]) := ⟨by rw [hes, e2]⟩
            have hjl := (List.getElem?_eq_some_iff.1 hj).1
            have hjz : (j : Int) < (rs.length : Int) := by omega
            have hre : rd_T30 rs (j : Int) = r := by
              unfold rd_T30
              rw [Int.toNat_natCast, List.getD_eq_getElem?_getD, hj]; rfl
            obtain ⟨a1, ha1, _⟩ := at_T30 (HREL.out W0 (Below.refl _ _)) (j : Int) (by omega) hjz
            have HAT := Aside0.mk (fun (W : World) (hb : Below W0.heap.size W0 W) => (show W.cell? ⟨(a1.add (j * 13)).block, (a1.add (j * 13)).off + 7, none⟩ = some (.int .i64 r.f3.f0) ∧ W.cell? ⟨(a1.add (j * 13)).block, (a1.add (j * 13)).off + 8, none⟩ = some (.int .i64 r.f3.f1) ∧ W.cell? ⟨(a1.add (j * 13)).block, (a1.add (j * 13)).off + 9, none⟩ = some (.int .i64 r.f3.f2) ∧ W.cell? ⟨(a1.add (j * 13)).block, (a1.add (j * 13)).off + 10, none⟩ = some (.string r.f3.f3) ∧ W.cell? ⟨(a1.add (j * 13)).block, (a1.add (j * 13)).off + 11, none⟩ = some (.string r.f3.f4) from by
              obtain ⟨a2, ha2, _, _, _, _, _, _, _, g7, g8, g9, g10, g11, _⟩ := at_T30 (HREL.out W hb) (j : Int) (by omega) hjz
              obtain rfl : a1 = a2 := Option.some.inj (ha1.symm.trans ha2)
              rw [hre, Int.toNat_natCast] at g7 g8 g9 g10 g11
              exact ⟨g7, g8, g9, g10, g11⟩))
            clear e1 e2 hes hj hre HREL
            subst ha1
            go_wp2_with (go_at_call 49; refine hidx.mono ?_; rintro e w2 ⟨rfl, hb⟩; have HO2 := Aside0.mk (Kd.R_below HO1.out hb); have HB2 := Aside0.mk (below_step HB1.out hb); have HQ2 := Aside0.mk (blk_below HQ1.out hb); clear hb h0 h1 h2 h3 h4 h5)
            have HH2 := Aside0.mk (fun (W : World) (hb : Below w2.heap.size w2 W) => (⟨(blk_cell (blk_below HQ2.out hb) 0).trans rfl, HAT.out W (below_step HB2.out hb)⟩ : W.cell? ⟨wr.heap.size, 0, none⟩ = some (.string q.f0) ∧ W.cell? ⟨(a1.add (j * 13)).block, (a1.add (j * 13)).off + 7, none⟩ = some (.int .i64 r.f3.f0) ∧ W.cell? ⟨(a1.add (j * 13)).block, (a1.add (j * 13)).off + 8, none⟩ = some (.int .i64 r.f3.f1) ∧ W.cell? ⟨(a1.add (j * 13)).block, (a1.add (j * 13)).off + 9, none⟩ = some (.int .i64 r.f3.f2) ∧ W.cell? ⟨(a1.add (j * 13)).block, (a1.add (j * 13)).off + 10, none⟩ = some (.string r.f3.f3) ∧ W.cell? ⟨(a1.add (j * 13)).block, (a1.add (j * 13)).off + 11, none⟩ = some (.string r.f3.f4)))
            refine sX (ds := []) (S := fun w' => w'.cell? ⟨wr.heap.size, 0, none⟩ = some (.string q.f0) ∧ w'.cell? ⟨(a1.add (j * 13)).block, (a1.add (j * 13)).off + 7, none⟩ = some (.int .i64 r.f3.f0) ∧ w'.cell? ⟨(a1.add (j * 13)).block, (a1.add (j * 13)).off + 8, none⟩ = some (.int .i64 r.f3.f1) ∧ w'.cell? ⟨(a1.add (j * 13)).block, (a1.add (j * 13)).off + 9, none⟩ = some (.int .i64 r.f3.f2) ∧ w'.cell? ⟨(a1.add (j * 13)).block, (a1.add (j * 13)).off + 10, none⟩ = some (.string r.f3.f3) ∧ w'.cell? ⟨(a1.add (j * 13)).block, (a1.add (j * 13)).off + 11, none⟩ = some (.string r.f3.f4)) edt.tab9 edt.bits9 (HH2.out _ (below_drew1 (Below.refl _ _))) (fun HT_ HW_ hHeld => ?_)
            have HO3 := Aside0.mk (Kd.R_drew HO2.out)
            have HH3 := Aside0.mk (fun (W : World) (hb : Below w2.drew.heap.size w2.drew W) => HH2.out W (below_step (below_drew1 (Below.refl _ _)) hb))
            have HB3 := Aside0.mk (below_drew1 HB2.out)
            have HQ3 := Aside0.mk (blk_drew HQ2.out)
            clear HH2 HO2 HB2 HQ2
            generalize hbq : wr.heap.size = bq at HQ3 HH3 HNB hHeld ⊢
            generalize w2.drew = w3 at HO3 HB3 HQ3 HH3 hHeld ⊢
            have HLQ := Aside0.mk (show W0.heap.size ≤ bq from hbq ▸ HB.out.size)
            clear hbq
            obtain ⟨A7, c7, rfl⟩ := Kd.R_slice HO3.out
            refine pX HT_ 0 1 34 ?_
            refine pX HT_ 1 3 35 ?_
            refine pX HT_ 3 11 37 ?_
            refine pX HT_ 4 27 38 ?_
            refine pX HT_ 5 59 39 ?_
            refine pX HT_ 6 123 40 ?_
            refine tX HT_ HW_ hHeld 2 127 36 ?_
            refine tX HT_ HW_ hHeld 7 255 41 ?_
            refine pX HT_ 8 511 42 ?_
            refine oX HT_ 9 1023 (some 43) (fun K hK => ?_)
            refine value_ (by kernel_rfl) rfl (by go_simp; exact ⟨rfl, rfl⟩) ?_
            refine hK.out _ _ (HH3.out _ (below_alloc (Below.refl _ _) _)) (fun hHeld => ?_)
            clear hK K
            refine norm_ nX ?_
            refine oX HT_ 10 2047 (some 44) (fun K hK => ?_)
            refine Kd.R_append_step k69 (w0 := w3) W0.heap.size (by kernel_rfl) (.tmp 34) (.tmp 43) 55 69 _ 72 rfl Tryz.underlying55 info69 rfl (by decide) (by decide) (.slice A7 (editGo l rs (reqs.take kk)).length c7) (editGo l rs (reqs.take kk)) ⟨q.f0, r.f3⟩ _ (fun _ => True) (fun _ => False) rfl rfl (k69_mkM _ _ _ ⟨q.f0, r.f3⟩) (fun _ h => h.elim) (fun _ _ => trivial) HO3.out (Below.refl _ _) HB3.out.size (by have := HEL2.out; have := HTK.out; omega) ?_
            intro v1 w5 ho hb hg hat
            have HB5 := Aside0.mk (HB3.out.grown hg HB3.out.size (fun k hk => Kd.R_base HO3.out k hk))
            have HO5 := Aside0.mk ho
            have HQ5 := Aside0.mk (blk_grown HQ3.out hg (fun e => by have := HNB.out bq e.symm; omega))
            clear ho hb hg hat
            refine hK.out _ _ ⟨blk_cell HQ5.out 0, HAT.out w5 HB5.out⟩ (fun hHeld => ?_)
            clear hK K
            refine norm_ nX ?_
            refine pX HT_ 11 4095 7 ?_
            refine eX HT_ ?_
            clear HT_ HW_ hHeld
            go_wp2
            go_roundg (n - (kk + 1))
            case measure => omega
            case rel => exact ⟨kk + 1, by omega, by omega, by go_num, ⟨by rw [HE2.out]; exact HO5.out⟩, HB5⟩
        · have hltz : ¬ (kk : Int) < (n : Int) := by omega
          have : kk = n := by omega
          subst this
          go_wp2
          go_ret
          refine ⟨_, rfl, ?_, HB0.out.trans (HB.out.mono HB0.out.size)⟩
          rw [HEA.out]
          exact Kd.R_lower HO.out HB0.out.size
    · rw [if_neg h1]
      have hlz : (0 : Int) ≤ (l.length : Int) := by omega
      generalize l.length = n at *
      clear hr0 hr1 hs
      go_enter Tryz.func21, Tryz.ntmps21
      go_wp2
      go_ret
      exact ⟨_, rfl, Kd.R_nil _ _ _ _ _, below_alloc (Below.refl _ _) _⟩
  · rw [if_neg h0]
    generalize l.length = n at *
    clear hr0 hr1 hs
    go_enter Tryz.func21, Tryz.ntmps21
    go_wp2
    go_ret
    exact ⟨_, rfl, Kd.R_nil _ _ _ _ _, below_alloc (Below.refl _ _) _⟩
end Go.Proofs.YtillhaipemengaaGreatDoor
end

section
namespace Go.Proofs.YtillhaipemengaaGreatDoor.RD
open Go.RowKit Go.Proofs.YtillhaipemengaaGreatDoor Go.Proofs.YtillhaipemengaaGreatDoor.K0 Go.Proofs.YtillhaipemengaaGreatDoorW.PrintWords Go.Proofs.YtillhaipemengaaGreatDoorW.PrintLast Go.Proofs.YtillhaipemengaaGreatDoorW.PrintMore
attribute [local go_sem] max2_int min2_int max_two min_two max_three min_three max_four min_four
set_option linter.unusedVariables false
set_option linter.unusedSimpArgs false
end Go.Proofs.YtillhaipemengaaGreatDoor.RD
end
