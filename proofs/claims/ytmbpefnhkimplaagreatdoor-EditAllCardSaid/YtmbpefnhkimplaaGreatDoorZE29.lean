/- The texts MnStm in one file, without what these claims do not use (put together by prune2.py). -/
import Derived.Test.YtmbpefnhkimplaaGreatDoorZE28
section
namespace Go.Proofs.YtmbpefnhkimplaaGreatDoor
open Go Go.RowKit Go.Sort Go.Maps Go.Proofs Go.Proofs.YtmbpefnhkimplaaGreatDoorW.PrintWords Go.Proofs.YtmbpefnhkimplaaGreatDoorW.PrintLast Go.Proofs.YtmbpefnhkimplaaGreatDoor.K0 Go.Proofs.YtmbpefnhkimplaaGreatDoor.R1 Go.Proofs.YtmbpefnhkimplaaGreatDoor.R2 Go.Proofs.YtmbpefnhkimplaaGreatDoor.RC
set_option linter.unusedVariables false
set_option linter.unusedSimpArgs false
/-- The i-th word. -/
def wAt (ws : List Wd) (i : Nat) : Wd := ws.getD i ⟨⟨#[]⟩, 0⟩
/-- What the k-th verb does; a statement. -/
def doK (x : Ps) (k : Nat) (ws : List Wd) : Ps × Int := match k with
  | 0 => modP x (wAt ws 0).f0
  | 1 => relP x (wAt ws 0).f0
  | 2 => rqrP x (reqP (wAt ws 0).f0 (wAt ws 1).f0).1 (reqP (wAt ws 0).f0 (wAt ws 1).f0).2 (wAt ws 1).f1
  | 3 => excP x (reqP (wAt ws 0).f0 (wAt ws 1).f0).1 (reqP (wAt ws 0).f0 (wAt ws 1).f0).2
  | 4 => repP x (wAt ws 0).f0 (wAt ws 2).f0
  | _ => if 1 < ws.length then retP x (wAt ws 1).f0 (wAt ws 3).f0 else retP x (wAt ws 0).f0 (wAt ws 0).f0
def stmtP (x : Ps) (v : ByteArray) (ws : List Wd) : Ps × Int := if (shapesK (verbK v.data.toList)).contains (shapeW ws) = true then doK x (verbK v.data.toList) ws else (x, 10)
/-- Words that a lexer makes; a parser that may go on. -/
structure WsOk (ws : List Wd) : Prop where
  size : ∀ y ∈ ws, y.f0.size ≤ 400000
  lo : ∀ y ∈ ws, 0 ≤ y.f1
  hi : ∀ y ∈ ws, y.f1 ≤ 400000
  one : ∀ y ∈ ws, (shapeOf y).length = 1
  len : ws.length ≤ 900000
structure PsOk (x : Ps) : Prop where
  reqs : x.reqs.length ≤ 1000000
  swaps : x.swaps.length ≤ 1000000
  excl : x.excl.length ≤ 1000000
  retr : x.retr.length ≤ 1000000
  cnt : x.cnt ≤ 1000000
  lo : 0 ≤ x.fro
  hi : x.fro ≤ 1000000000000
theorem shapeW_one : ∀ {ws : List Wd}, (∀ y ∈ ws, (shapeOf y).length = 1) → (shapeW ws).length = ws.length
  | [], _ => rfl
  | y :: l, h => by
    have ih := shapeW_one (ws := l) fun z hz => h z (List.mem_cons_of_mem _ hz)
    unfold shapeW at ih ⊢
    rw [List.flatMap_cons, List.length_append, ih, h y List.mem_cons_self, List.length_cons]; omega
theorem req_size (a b : ByteArray) (h : a.size ≤ 400000) : (reqP a b).1.f0.size ≤ 400000 := by
  unfold reqP
  split
  · exact Nat.zero_le _
  · split
    · exact Nat.zero_le _
    · split
      · exact Nat.zero_le _
      · exact h
theorem enters_fnK (k : Nat) (hk : k < 6) : Enters Tryz.prog (fnK k) := by
  match k, hk with
  | 0, _ => exact enters_of Tryz.func129 (by kernel_rfl) rfl
  | 1, _ => exact enters_of Tryz.func130 (by kernel_rfl) rfl
  | 2, _ => exact enters_of Tryz.func131 (by kernel_rfl) rfl
  | 3, _ => exact enters_of Tryz.func132 (by kernel_rfl) rfl
  | 4, _ => exact enters_of Tryz.func133 (by kernel_rfl) rfl
  | 5, _ => exact enters_of Tryz.func134 (by kernel_rfl) rfl
theorem do_calls (w0 w1 : World) (P : Nat) (p : PVals) (x : Ps) (k : Nat) (hk : k < 6) (ws : List Wd) (hs : (shapesK k).contains (shapeW ws) = true) (hw : WsOk ws) (hx : PsOk x) (A : Option Addr) (c : Nat) (w : World) (hG : GW w0) (hI : PsIs w0 w1 P p x w) (hC : Kd.C k159 w A ws.length ws) :
    Calls Tryz.prog (fnK k) #[.pointer (some ⟨P, 0, none⟩), .slice A ws.length c] w fun e w' => e = .returned (errV (doK x k ws).2) ∧ ∃ p', p'.m = p.m ∧ PsIs w0 w1 P p' (doK x k ws).1 w' := by
  have hl := shapeW_one hw.one
  have hsz := hw.size
  have hlo := hw.lo
  have hhi := hw.hi
  have l1 : ∀ t, shapeW ws = t → ws.length = t.length := fun t h => by rw [← hl, h]
  have h1 : ws.length = 1 → ∃ a, ws = [a] := fun h => List.length_eq_one_iff.1 h
  have h2 : ws.length = 2 → ∃ a b, ws = [a, b] := fun h => match ws, h with | [a, b], _ => ⟨a, b, rfl⟩
  have h3 : ws.length = 3 → ∃ a b c, ws = [a, b, c] := fun h => match ws, h with | [a, b, c], _ => ⟨a, b, c, rfl⟩
  have h5 : ws.length = 5 → ∃ a b c d e, ws = [a, b, c, d, e] := fun h => match ws, h with | [a, b, c, d, e], _ => ⟨a, b, c, d, e, rfl⟩
  match k, hk with
  | 0, _ =>
    obtain ⟨a, rfl⟩ := h1 (l1 [120] (by simpa [shapesK] using hs))
    refine (module_calls w0 w1 P p x a [] A c w hG hI hC).mono ?_
    rintro e w' ⟨h, h'⟩
    exact ⟨h, p, rfl, h'⟩
  | 1, _ =>
    obtain ⟨a, rfl⟩ := h1 (l1 [120] (by simpa [shapesK] using hs))
    refine (release_calls w0 w1 P p x a [] (hsz a (by simp)) A c w hG hI hC).mono ?_
    rintro e w' ⟨h, h'⟩
    exact ⟨h, p, rfl, h'⟩
  | 2, _ =>
    obtain ⟨a, b, rfl⟩ := h2 (l1 [120, 120] (by simpa [shapesK] using hs))
    have := hlo b (by simp); have := hhi b (by simp); have := hx.lo; have := hx.hi
    exact require_calls w0 w1 P p x a b _ _ rfl (req_size _ _ (hsz a (by simp))) (hsz b (by simp)) (by omega) (by omega) hx.cnt hx.reqs A c w hG hI hC
  | 3, _ =>
    obtain ⟨a, b, rfl⟩ := h2 (l1 [120, 120] (by simpa [shapesK] using hs))
    exact exclude_calls w0 w1 P p x a b _ _ rfl (hsz b (by simp)) hx.excl A c w hG hI hC
  | 4, _ =>
    obtain ⟨a, m, d, rfl⟩ := h3 (l1 [120, 61, 120] (by simpa [shapesK] using hs))
    exact replace_calls w0 w1 P p x a m d hx.swaps A c w hG hI hC
  | 5, _ =>
    have hs' : shapeW ws = [120] ∨ shapeW ws = [91, 120, 44, 120, 93] := by simpa [shapesK] using hs
    rcases hs' with hs' | hs'
    · obtain ⟨a, rfl⟩ := h1 (l1 _ hs')
      exact retract_one w0 w1 P p x a (hsz a (by simp)) hx.retr A c w hG hI hC
    · obtain ⟨o, a, m, b, s, rfl⟩ := h5 (l1 _ hs')
      exact retract_two w0 w1 P p x o a m b s (hsz a (by simp)) (hsz b (by simp)) hx.retr A c w hG hI hC
def sm2.T2 : Bool × List (List Nat × List Nat) := (true, [([], []), ([0], [0]), ([1], [1]), ([2], [2]), ([3, 2], [2, 3]), ([2], [2]), ([5, 2, 2], [2, 5]), ([4, 6, 6, 2], [2, 4, 6]), ([7, 2], [2, 7]), ([2, 8], [2, 8])])
def sm2.B2 : List Nat := [0, 1, 3, 7, 15, 7, 39, 127, 255, 511]
theorem sm2.tab2 : rtab .any (opsOf Tryz.f99 2) = sm2.T2 := by kernel_rfl
theorem sm2.bits2 : waitsOk sm2.T2.2 sm2.B2 = true := by kernel_rfl
set_option maxRecDepth 100000 in
set_option maxHeartbeats 4000000 in
theorem statement_calls (w0 w1 : World) (P : Nat) (p : PVals) (x : Ps) (v : ByteArray) (hvs : v.size ≤ 400000) (ws : List Wd) (hw : WsOk ws) (hx : PsOk x) (A : Option Addr) (c : Nat) (w : World) (hG : GW w0) (hI : PsIs w0 w1 P p x w) (hC : Kd.C k159 w A ws.length ws) :
    Calls Tryz.prog 99 #[.pointer (some ⟨P, 0, none⟩), .string v, .slice A ws.length c] w fun e w' => e = .returned (errV (stmtP x v ws).2) ∧ ∃ p', p'.m = p.m ∧ PsIs w0 w1 P p' (stmtP x v ws).1 w' := by
  obtain ⟨k, hkk⟩ : ∃ k, k = verbK v.data.toList := ⟨_, rfl⟩
  have HVS : Aside0 (v.size ≤ maxLen) := ⟨by unfold maxLen; omega⟩
  have HE : Aside0 (stmtP x v ws = if (shapesK k).contains (shapeW ws) = true then doK x k ws else (x, 10)) := ⟨by rw [hkk]; rfl⟩
  have HSH : Aside0 (∀ W, PsIs w0 w1 P p x W → Kd.C k159 W A ws.length ws → Calls Tryz.prog 128 #[.slice A ws.length c] W fun e w' => e = .returned (.string (ba (shapeW ws))) ∧ Below W.heap.size W w') := ⟨fun W h hc => shape_calls ws hw.size hw.len A c W (hG.below h.below) hc⟩
  have HCN : Aside0 (∀ W ad, Kd.C Kd.string W (some ad) ((shapesK k).map ba).length ((shapesK k).map ba) → Calls Tryz.prog 127 #[.slice (some ad) ((shapesK k).map ba).length ((shapesK k).map ba).length, .string (ba (shapeW ws))] W fun e w' => e = .returned (.bool ((shapesK k).contains (shapeW ws))) ∧ Below W.heap.size W w') := ⟨fun W ad hc => (slices_Contains_string_string.calls 4 (some ad) _ ((shapesK k).map ba) (ba (shapeW ws)) _ W hc (Nat.le_refl _) (shapes_f k (shapeW ws))).mono (fun e w' h => ⟨h.1, h.2.below⟩)⟩
  have HDO := fun (hk : k < 6) (hs : (shapesK k).contains (shapeW ws) = true) W (h : PsIs w0 w1 P p x W) hc => do_calls w0 w1 P p x k hk ws hs hw hx A c W hG h hc
  have heg := enters_fnK k
  have HKK := Aside0.mk hkk
  have HI := Aside0.mk hI
  have HC := Aside0.mk hC
  obtain ⟨L, hL⟩ : ∃ L, L = (shapesK k).map ba := ⟨_, rfl⟩
  obtain ⟨n, hn⟩ : ∃ n, n = (shapesK k).length := ⟨_, rfl⟩
  have hnl : ((shapesK k).map ba).length = n := by rw [List.length_map, hn]
  rw [hnl, ← hL] at HCN
  obtain ⟨bl, hbl⟩ : ∃ b, b = blockK k := ⟨_, rfl⟩
  obtain ⟨g, hg⟩ : ∃ g, g = fnK k := ⟨_, rfl⟩
  rw [← hg] at HDO heg
  have HL := Aside0.mk hL
  have HN := Aside0.mk hn
  have HBL := Aside0.mk hbl
  have HG := Aside0.mk hg
  obtain ⟨nw, hnw⟩ : ∃ n, n = ws.length := ⟨_, rfl⟩
  rw [← hnw] at HSH HC HDO ⊢
  generalize stmtP x v ws = ro at HE ⊢
  clear hkk hG hI hC hL hn hnl hbl hg hnw hw hx hvs
  by_cases hk : k < 6
  · have HK := Aside0.mk hk
    have eg : ∀ args w, (callFunc g args).run Tryz.prog w = .ok (.enter g args) w := heg hk
    cases hc : (shapesK k).contains (shapeW ws) with
    | false =>
      rw [hc] at HE HCN
      clear hk hc HDO heg
      go_enter Tryz.func99, Tryz.ntmps99
      go_wp2_with (first | (go_at_call 100; refine (verbs_calls _).mono ?_; rintro e W1 ⟨M, rfl, hb, hV⟩; obtain ⟨vv, hl1, _, hvl⟩ := hV.look v HVS.out; rw [← HKK.out] at hl1 hvl; obtain ⟨ad, rfl, hCS⟩ := hvl.elim (fun h => h.2) (fun h => absurd HK.out h.1); rw [decide_eq_true HK.out, ← HN.out, ← HBL.out, ← HG.out] at hl1; rw [← HN.out, ← HL.out] at hCS; have HI1 := Aside0.mk (HI.out.step hb); have HC1 := Aside0.mk (Kd.C_below HC.out hb); have HS1 := Aside0.mk hCS; clear hb hV hvl hCS) | ((with_reducible refine gate_ (.store 163 (.tmp 7) (.tmp 13)) rfl ?_); refine store_ev 163 (.tmp 7) (.tmp 13) rfl rfl rfl 0 [.slice (some ad) n n, .bool bl, .func (.func g) #[] #[]] (heap_alloc_new W1 _) rfl rfl rfl (by kernel_rfl) (show 0 + 3 ≤ 3 by decide) (by simp [Value.oneCell']) rfl ?_; intro W2 hn hg; have HV2 := Aside0.mk hn; have hb2 := fresh_below hg; have HI2 := Aside0.mk (HI1.out.step hb2); have HC2 := Aside0.mk (Kd.C_below HC1.out hb2); have HS2 := Aside0.mk (Kd.C_below HS1.out hb2); clear hn hg hb2 hl1))
      have HI3 := Aside0.mk (HI2.out.step (below_drew1 (Below.refl _ _)))
      have HV3 := Aside0.mk (blk_drew HV2.out)
      have HC3 := Aside0.mk (Kd.C_below HC2.out (below_drew1 (Below.refl _ _)))
      have HS3 := Aside0.mk (Kd.C_below HS2.out (below_drew1 (Below.refl _ _)))
      refine sX (ds := []) (S := fun w' => w'.cell? ⟨W1.heap.size, 0, none⟩ = some (.slice (some ad) n n)) sm2.tab2 sm2.bits2 ((blk_cell HV3.out 0).trans rfl) (fun HT_ HW_ hHeld => ?_)
      generalize W2.drew = W3 at HI3 HV3 HC3 HS3 hHeld ⊢
      refine pX HT_ 0 1 15 ?_
      refine pX HT_ 1 3 16 ?_
      refine pX HT_ 2 7 17 ?_
      refine pX HT_ 3 15 18 ?_
      refine pX HT_ 5 47 20 ?_
      refine tX HT_ HW_ hHeld 4 63 19 ?_
      refine gX HT_ 6 127 21 Tryz.func128 (HSH.out W3 HI3.out HC3.out) ?_
      rintro e W4 ⟨rfl, hb⟩
      have HI4 := Aside0.mk (HI3.out.step hb)
      have HV4 := Aside0.mk (blk_below HV3.out hb)
      have HC4 := Aside0.mk (Kd.C_below HC3.out hb)
      have HS4 := Aside0.mk (Kd.C_below HS3.out hb)
      refine ⟨_, rfl, _, nX, ((blk_cell HV4.out 0).trans rfl), fun hHeld => ?_⟩
      clear hb
      refine gX HT_ 7 255 22 Tryz.func127 (HCN.out W4 ad HS4.out) ?_
      rintro e W5 ⟨rfl, hb⟩
      have HI5 := Aside0.mk (HI4.out.step hb)
      have HV5 := Aside0.mk (blk_below HV4.out hb)
      have HC5 := Aside0.mk (Kd.C_below HC4.out hb)
      refine ⟨_, rfl, _, nX, ((blk_cell HV5.out 0).trans rfl), fun hHeld => ?_⟩
      clear hb
      refine pX HT_ 8 511 23 ?_
      refine pX HT_ 9 1023 24 ?_
      refine eX HT_ ?_
      clear HT_ HW_ hHeld
      go_wp2
      go_ret
      exact ⟨by rw [HE.out]; rfl, p, rfl, by rw [HE.out]; exact HI5.out⟩
    | true =>
      rw [hc] at HE HCN
      have HD := Aside0.mk (HDO hk hc)
      clear hk hc HDO heg
      go_enter Tryz.func99, Tryz.ntmps99
      go_wp2_with (first | (go_at_call 100; refine (verbs_calls _).mono ?_; rintro e W1 ⟨M, rfl, hb, hV⟩; obtain ⟨vv, hl1, _, hvl⟩ := hV.look v HVS.out; rw [← HKK.out] at hl1 hvl; obtain ⟨ad, rfl, hCS⟩ := hvl.elim (fun h => h.2) (fun h => absurd HK.out h.1); rw [decide_eq_true HK.out, ← HN.out, ← HBL.out, ← HG.out] at hl1; rw [← HN.out, ← HL.out] at hCS; have HI1 := Aside0.mk (HI.out.step hb); have HC1 := Aside0.mk (Kd.C_below HC.out hb); have HS1 := Aside0.mk hCS; clear hb hV hvl hCS) | ((with_reducible refine gate_ (.store 163 (.tmp 7) (.tmp 13)) rfl ?_); refine store_ev 163 (.tmp 7) (.tmp 13) rfl rfl rfl 0 [.slice (some ad) n n, .bool bl, .func (.func g) #[] #[]] (heap_alloc_new W1 _) rfl rfl rfl (by kernel_rfl) (show 0 + 3 ≤ 3 by decide) (by simp [Value.oneCell']) rfl ?_; intro W2 hn hg; have HV2 := Aside0.mk hn; have hb2 := fresh_below hg; have HI2 := Aside0.mk (HI1.out.step hb2); have HC2 := Aside0.mk (Kd.C_below HC1.out hb2); have HS2 := Aside0.mk (Kd.C_below HS1.out hb2); clear hn hg hb2 hl1))
      have HI3 := Aside0.mk (HI2.out.step (below_drew1 (Below.refl _ _)))
      have HV3 := Aside0.mk (blk_drew HV2.out)
      have HC3 := Aside0.mk (Kd.C_below HC2.out (below_drew1 (Below.refl _ _)))
      have HS3 := Aside0.mk (Kd.C_below HS2.out (below_drew1 (Below.refl _ _)))
      refine sX (ds := []) (S := fun w' => w'.cell? ⟨W1.heap.size, 0, none⟩ = some (.slice (some ad) n n)) sm2.tab2 sm2.bits2 ((blk_cell HV3.out 0).trans rfl) (fun HT_ HW_ hHeld => ?_)
      generalize W2.drew = W3 at HI3 HV3 HC3 HS3 hHeld ⊢
      refine pX HT_ 0 1 15 ?_
      refine pX HT_ 1 3 16 ?_
      refine pX HT_ 2 7 17 ?_
      refine pX HT_ 3 15 18 ?_
      refine pX HT_ 5 47 20 ?_
      refine tX HT_ HW_ hHeld 4 63 19 ?_
      refine gX HT_ 6 127 21 Tryz.func128 (HSH.out W3 HI3.out HC3.out) ?_
      rintro e W4 ⟨rfl, hb⟩
      have HI4 := Aside0.mk (HI3.out.step hb)
      have HV4 := Aside0.mk (blk_below HV3.out hb)
      have HC4 := Aside0.mk (Kd.C_below HC3.out hb)
      have HS4 := Aside0.mk (Kd.C_below HS3.out hb)
      refine ⟨_, rfl, _, nX, ((blk_cell HV4.out 0).trans rfl), fun hHeld => ?_⟩
      clear hb
      refine gX HT_ 7 255 22 Tryz.func127 (HCN.out W4 ad HS4.out) ?_
      rintro e W5 ⟨rfl, hb⟩
      have HI5 := Aside0.mk (HI4.out.step hb)
      have HV5 := Aside0.mk (blk_below HV4.out hb)
      have HC5 := Aside0.mk (Kd.C_below HC4.out hb)
      refine ⟨_, rfl, _, nX, ((blk_cell HV5.out 0).trans rfl), fun hHeld => ?_⟩
      clear hb
      refine pX HT_ 8 511 23 ?_
      refine pX HT_ 9 1023 24 ?_
      refine eX HT_ ?_
      clear HT_ HW_ hHeld
      have z2 := (blk_cell HV5.out 2).trans rfl
      go_wp2_with (go_at_fn g; refine (HD.out W5 HI5.out HC5.out).mono ?_; rintro e w' ⟨rfl, p', hp', hI'⟩)
      go_ret
      exact ⟨by rw [HE.out]; rfl, p', hp', by rw [HE.out]; exact hI'⟩
  · have HK := Aside0.mk hk
    have hc : (shapesK k).contains (shapeW ws) = false := by
      match k, hk with
      | k + 6, _ => rfl
      | 0, h | 1, h | 2, h | 3, h | 4, h | 5, h => exact absurd (by decide) h
    rw [hc] at HE
    clear hk hc HDO heg HCN
    go_enter Tryz.func99, Tryz.ntmps99
    go_wp2_with (first | (go_at_call 100; refine (verbs_calls _).mono ?_; rintro e W1 ⟨M, rfl, hb, hV⟩; obtain ⟨vv, hl1, _, hvl⟩ := hV.look v HVS.out; rw [← HKK.out] at hl1 hvl; obtain rfl := hvl.elim (fun h => absurd h.1 HK.out) (fun h => h.2); rw [decide_eq_false HK.out] at hl1; have HI1 := Aside0.mk (HI.out.step hb); clear hb hV hvl) | ((with_reducible refine gate_ (.store 163 (.tmp 7) (.tmp 13)) rfl ?_); refine store_ev 163 (.tmp 7) (.tmp 13) rfl rfl rfl 0 [.slice none 0 0, .bool false, .nilFunc] (heap_alloc_new W1 _) rfl rfl rfl (by kernel_rfl) (show 0 + 3 ≤ 3 by decide) (by simp [Value.oneCell']) rfl ?_; intro W2 hn hg; have hb2 := fresh_below hg; have HI2 := Aside0.mk (HI1.out.step hb2); clear hn hg hb2 hl1))
    have HI3 := Aside0.mk (HI2.out.step (below_drew1 (Below.refl _ _)))
    refine sX (ds := []) (S := fun _ => True) sm2.tab2 sm2.bits2 trivial (fun HT_ HW_ hHeld => ?_)
    generalize W2.drew = W3 at HI3 hHeld ⊢
    refine pX HT_ 0 1 15 ?_
    refine pX HT_ 1 3 16 ?_
    refine pX HT_ 2 7 17 ?_
    refine fX HT_ 3 15 18 ?_
    refine fX HT_ 4 31 19 ?_
    refine fX HT_ 5 63 20 ?_
    refine fX HT_ 6 127 21 ?_
    refine fX HT_ 7 255 22 ?_
    refine fX HT_ 8 511 23 ?_
    refine pX HT_ 9 1023 24 ?_
    refine eX HT_ ?_
    clear HT_ HW_ hHeld
    go_wp2
    go_ret
    exact ⟨by rw [HE.out]; rfl, p, rfl, by rw [HE.out]; exact HI3.out⟩
end Go.Proofs.YtmbpefnhkimplaaGreatDoor
end
