/- The texts MvCmp, MnRet in one file, without what these claims do not use (put together by prune2.py). -/
import Derived.Test.YtmbpefnhkimplaaGreatDoorZE13
import Derived.Test.YtmbpefnhkimplaaGreatDoorZE26
import Derived.Test.YtmbpefnhkimplaaGreatDoorZE14
import Derived.Test.YtmbpefnhkimplaaGreatDoorZE12
import Derived.Shelf.Abstract
import Derived.Test.YtmbpefnhkimplaaGreatDoorZE24
section
namespace Go.Proofs.YtmbpefnhkimplaaGreatDoor
open Go Go.RowKit Go.Sort Go.Proofs Go.Proofs.YtmbpefnhkimplaaGreatDoorW.PrintWords Go.Proofs.YtmbpefnhkimplaaGreatDoor.K0 Go.Proofs.YtmbpefnhkimplaaGreatDoor.R1 Go.Proofs.YtmbpefnhkimplaaGreatDoor.R2 Go.Proofs.YtmbpefnhkimplaaGreatDoor.R3 Go.Proofs.YtmbpefnhkimplaaGreatDoor.R4
set_option linter.unusedVariables false
set_option linter.unusedSimpArgs false
theorem compare_f (a b c : Int) (p q : ByteArray) (a2 b2 c2 : Int) (p2 q2 : ByteArray) (k : Nat) (hk : 101 < k) : ver_Compare.f k a b c p q a2 b2 c2 p2 q2 = some (verCmp a b c p q a2 b2 c2 p2 q2) := by
  obtain ⟨k, rfl⟩ : ∃ m, k = m + 1 := ⟨k - 1, by omega⟩
  unfold ver_Compare.f verCmp
  rw [ver_Check_f a b c p q (k + 1) (by omega), ver_Check_f a2 b2 c2 p2 q2 (k + 1) (by omega)]
  simp only [Option.bind_some, ver_Compare.j0, cmpInt_f]
  by_cases h1 : verOk a b c p q = true
  · by_cases h2 : verOk a2 b2 c2 p2 q2 = true
    · have s1 := (verIs h1).hp
      have s2 := (verIs h2).hp
      have hb : ver_byPre.f p p2 = some (preCmp p.data.toList p2.data.toList) := by
        unfold ver_byPre.f
        rw [if_pos (by omega), if_pos (by omega)]
      rw [hb]
      simp only [Option.bind_some]
      rw [or_f _ (by simp) k (by omega)]
      simp [h1, h2, orAll, orr_zero]
    · simp [h1, h2]
  · simp [h1]
theorem compare_calls (a b c : Int) (p q : ByteArray) (a2 b2 c2 : Int) (p2 q2 : ByteArray) (w : World) (hG : GW w) :
    Calls Tryz.prog 171 #[.agg #[.int .i64 a, .int .i64 b, .int .i64 c, .string p, .string q], .agg #[.int .i64 a2, .int .i64 b2, .int .i64 c2, .string p2, .string q2]] w fun e w' => e = .returned (.int .i64 (verCmp a b c p q a2 b2 c2 p2 q2)) ∧ Below w.heap.size w w' :=
  ver_Compare.calls 102 a b c p q a2 b2 c2 p2 q2 _ w hG (compare_f _ _ _ _ _ _ _ _ _ _ 102 (by decide))
theorem cell_of_heap {W : World} {B : Nat} {cs : Array Value} {t : TypeId} (h : W.heap[B]? = some (.cells cs t (0, 0))) (k : Nat) : W.cell? ⟨B, k, none⟩ = cs[k]? := by
  unfold World.cell?
  simp only [h]
  simp
end Go.Proofs.YtmbpefnhkimplaaGreatDoor
end

section
namespace Go.Proofs.YtmbpefnhkimplaaGreatDoor
open Go Go.RowKit Go.Sort Go.Maps Go.Proofs Go.Proofs.YtmbpefnhkimplaaGreatDoorW.PrintWords Go.Proofs.YtmbpefnhkimplaaGreatDoorW.PrintLast Go.Proofs.YtmbpefnhkimplaaGreatDoor.K0 Go.Proofs.YtmbpefnhkimplaaGreatDoor.R1 Go.Proofs.YtmbpefnhkimplaaGreatDoor.R2
set_option linter.unusedVariables false
set_option linter.unusedSimpArgs false
def vcm (a b : S23) : Int := verCmp a.f0 a.f1 a.f2 a.f3 a.f4 b.f0 b.f1 b.f2 b.f3 b.f4
def retP (x : Ps) (a b : ByteArray) : Ps × Int := ({ x with retr := x.retr ++ [⟨verP a, verP b⟩] }, if verI a = false then 7 else if verI b = false then 7 else if vcm (verP a) (verP b) > 0 then 7 else 0)
def rt2.T2 : Bool × List (List Nat × List Nat) := (true, [([], []), ([0], [0]), ([1], [1]), ([], []), ([3], [3]), ([4], [4]), ([2, 5], [2, 5]), ([6, 0, 1, 2, 3, 4, 5, 6], [0, 3, 6])])
def rt2.B2 : List Nat := [0, 1, 3, 0, 8, 24, 63, 127]
theorem rt2.tab2 : rtab .any (opsOf Tryz.f134 2) = rt2.T2 := by kernel_rfl
theorem rt2.bits2 : waitsOk rt2.T2.2 rt2.B2 = true := by kernel_rfl
def rt5.T5 : Bool × List (List Nat × List Nat) := (true, [([], []), ([], []), ([1], [1]), ([2], [2]), ([3], [3]), ([4], [4]), ([], []), ([], []), ([6, 7], [6, 7]), ([8], [8]), ([5, 9], [5, 9]), ([0, 0, 1, 2, 3, 4, 5, 6, 7, 8, 9, 10], [0]), ([11, 0, 1, 2, 3, 4, 5, 6, 7, 8, 9, 10], [11]), ([12, 0, 1, 2, 3, 4, 5, 6, 7, 8, 9, 10], [12]), ([13, 10, 10, 0, 1, 2, 3, 4, 5, 6, 7, 8, 9, 10], [10, 13])])
def rt5.B5 : List Nat := [0, 0, 2, 6, 14, 30, 0, 0, 192, 448, 1022, 2047, 4095, 8191, 16383]
theorem rt5.tab5 : rtab .any (opsOf Tryz.f134 5) = rt5.T5 := by kernel_rfl
theorem rt5.bits5 : waitsOk rt5.T5.2 rt5.B5 = true := by kernel_rfl
set_option maxRecDepth 100000 in
set_option maxHeartbeats 4000000 in
theorem retract_one (w0 w1 : World) (P : Nat) (p : PVals) (x : Ps) (a : Wd) (ha : a.f0.size ≤ 400000) (hln : x.retr.length ≤ 1000000) (A : Option Addr) (c : Nat) (w : World) (hG : GW w0) (hI : PsIs w0 w1 P p x w) (hC : Kd.C k159 w A 1 [a]) :
    Calls Tryz.prog 134 #[.pointer (some ⟨P, 0, none⟩), .slice A 1 c] w fun e w' => e = .returned (errV (retP x a.f0 a.f0).2) ∧ ∃ p', p'.m = p.m ∧ PsIs w0 w1 P p' (retP x a.f0 a.f0).1 w' := by
  obtain ⟨ad, rfl, _⟩ := words_at hC 0 (by decide) (x := a) rfl
  obtain ⟨q, hq⟩ : ∃ q, q = a.f0 := ⟨_, rfl⟩
  rw [show retP x a.f0 a.f0 = retP x a.f0 q by rw [hq]]
  have hb : q.size ≤ 400000 := hq ▸ ha
  have HGX : Aside0 (∀ W, Below w.heap.size w W → W.cell? ad = some (.string a.f0) ∧ W.cell? ad = some (.string q)) := ⟨fun W h => by
    obtain ⟨ad1, e1, p1, _⟩ := words_at (Kd.C_below hC h) 0 (by decide) (x := a) rfl
    obtain rfl := Option.some.inj e1
    exact ⟨p1, hq ▸ p1⟩⟩
  have HVA : Aside0 (∀ W, PsIs w0 w1 P p x W → Calls Tryz.prog 170 #[.string a.f0] W fun e w' => e = .returned (.tuple #[.agg (vrv (verP a.f0)), .bool (verI a.f0)]) ∧ Below W.heap.size W w') := ⟨fun W h => vparse_calls a.f0 ha W (hG.below h.below)⟩
  have HVB : Aside0 (∀ W, PsIs w0 w1 P p x W → Calls Tryz.prog 170 #[.string q] W fun e w' => e = .returned (.tuple #[.agg (vrv (verP q)), .bool (verI q)]) ∧ Below W.heap.size W w') := ⟨fun W h => vparse_calls q hb W (hG.below h.below)⟩
  have HCM : Aside0 (∀ (W : World) {pq : PVals} {y : Ps}, PsIs w0 w1 P pq y W → Calls Tryz.prog 171 #[.agg (vrv (verP a.f0)), .agg (vrv (verP q))] W fun e w' => e = .returned (.int .i64 (vcm (verP a.f0) (verP q))) ∧ Below W.heap.size W w') := ⟨fun W pq y h => compare_calls _ _ _ _ _ _ _ _ _ _ W (hG.below h.below)⟩
  have HE : Aside0 (retP x a.f0 q = ({ x with retr := x.retr ++ [⟨verP a.f0, verP q⟩] }, if verI a.f0 = false then 7 else if verI q = false then 7 else if decide (vcm (verP a.f0) (verP q) > 0) = true then 7 else 0)) := ⟨by unfold retP; simp only [decide_eq_true_eq]⟩
  have HLN : Aside0 ((x.retr.length + 1) * 112 ≤ 140737488355328) := ⟨by omega⟩
  have HI := Aside0.mk hI
  obtain ⟨A2, c2, hv2⟩ := Kd.R_slice hI.o5
  generalize retP x a.f0 q = ro at HE ⊢
  obtain ⟨va, hva⟩ : ∃ v, v = verP a.f0 := ⟨_, rfl⟩
  obtain ⟨vb, hvb⟩ : ∃ v, v = verP q := ⟨_, rfl⟩
  obtain ⟨b1, hb1⟩ : ∃ v, v = verI a.f0 := ⟨_, rfl⟩
  obtain ⟨b2, hb2⟩ : ∃ v, v = verI q := ⟨_, rfl⟩
  rw [← hva, ← hb1] at HVA
  rw [← hvb, ← hb2] at HVB
  rw [← hva, ← hvb] at HCM
  rw [← hva, ← hvb, ← hb1, ← hb2] at HE
  obtain ⟨z, hz⟩ : ∃ z, z = vcm va vb := ⟨_, rfl⟩
  rw [← hz] at HCM HE
  obtain ⟨b3, hb3⟩ : ∃ b, b = decide (z > 0) := ⟨_, rfl⟩
  rw [← hb3] at HE
  replace hb3 := hb3.symm
  clear hG hC hI hln hva hvb hb1 hb2 hz
  go_enter Tryz.func134, Tryz.ntmps134
  clear ha hb hq
  have HB0 := Aside0.mk (Below.refl w.heap.size w)
  have xa := (HGX.out _ HB0.out).1
  go_wp2_with (first | (go_at_call 170; with_reducible refine (HVA.out _ HI.out).mono ?_; rintro e W1 ⟨rfl, hb⟩; have HI1 := Aside0.mk (HI.out.step hb); have HB1 := Aside0.mk (below_step HB0.out hb); clear hb HVA) | ((with_reducible refine gate_ (.store 23 (.tmp 5) (.tmp 25)) rfl ?_); refine store_ev 23 (.tmp 5) (.tmp 25) rfl rfl rfl 0 (vrv va).toList (heap_alloc_new W1 _) rfl rfl rfl (by kernel_rfl) (show 0 + 5 ≤ 5 by decide) (by simp [Value.oneCell']) rfl ?_; intro W2 hn hg; have HV2 := Aside0.mk hn; have hb2 := fresh_below hg; have HI2 := Aside0.mk (HI1.out.step hb2); have HB2 := Aside0.mk (below_step HB1.out hb2); have xb := (HGX.out _ HB2.out).2; clear hn hg hb2) | (go_at_call 170; with_reducible refine (HVB.out _ HI2.out).mono ?_; rintro e W3 ⟨rfl, hb⟩; have HI3 := Aside0.mk (HI2.out.step hb); have HV3 := Aside0.mk (blk_below HV2.out hb); have HB3 := Aside0.mk (show Below W2.heap.size W2 W3 from hb); clear hb HVB) | ((with_reducible refine gate_ (.store 23 (.tmp 7) (.tmp 36)) rfl ?_); refine store_ev 23 (.tmp 7) (.tmp 36) rfl rfl rfl 0 (vrv vb).toList (heap_alloc_new W3 _) rfl rfl rfl (by kernel_rfl) (show 0 + 5 ≤ 5 by decide) (by simp [Value.oneCell']) rfl ?_; intro W4 hn hg; have HU4 := Aside0.mk hn; have hb4 := fresh_below hg; have HI4 := Aside0.mk (HI3.out.step hb4); have HV4 := Aside0.mk (blk_below HV3.out hb4); clear hn hg hb4))
  have HI5 := Aside0.mk (HI4.out.step (below_drew1 (Below.refl _ _)))
  have HV5 := Aside0.mk (blk_drew HV4.out)
  have HU5 := Aside0.mk (blk_drew HU4.out)
  refine sX (ds := [14]) (S := fun w' => w'.cell? ⟨P, 5, none⟩ = some (.slice A2 x.retr.length c2) ∧ w'.cell? ⟨W1.heap.size, 0, none⟩ = some (.int .i64 va.f0) ∧ w'.cell? ⟨W1.heap.size, 1, none⟩ = some (.int .i64 va.f1) ∧ w'.cell? ⟨W1.heap.size, 2, none⟩ = some (.int .i64 va.f2) ∧ w'.cell? ⟨W1.heap.size, 3, none⟩ = some (.string va.f3) ∧ w'.cell? ⟨W1.heap.size, 4, none⟩ = some (.string va.f4) ∧ w'.cell? ⟨W3.heap.size, 0, none⟩ = some (.int .i64 vb.f0) ∧ w'.cell? ⟨W3.heap.size, 1, none⟩ = some (.int .i64 vb.f1) ∧ w'.cell? ⟨W3.heap.size, 2, none⟩ = some (.int .i64 vb.f2) ∧ w'.cell? ⟨W3.heap.size, 3, none⟩ = some (.string vb.f3) ∧ w'.cell? ⟨W3.heap.size, 4, none⟩ = some (.string vb.f4)) rt5.tab5 rt5.bits5 ⟨(blk_cell HI5.out.blk 5).trans (congrArg some hv2), (blk_cell HV5.out 0).trans rfl, (blk_cell HV5.out 1).trans rfl, (blk_cell HV5.out 2).trans rfl, (blk_cell HV5.out 3).trans rfl, (blk_cell HV5.out 4).trans rfl, (blk_cell HU5.out 0).trans rfl, (blk_cell HU5.out 1).trans rfl, (blk_cell HU5.out 2).trans rfl, (blk_cell HU5.out 3).trans rfl, (blk_cell HU5.out 4).trans rfl⟩ (fun HT_ HW_ hHeld => ?_)
  generalize W4.drew = W5 at HI5 HV5 HU5 hHeld ⊢
  refine pX HT_ 0 1 38 ?_
  refine pX HT_ 1 3 39 ?_
  refine pX HT_ 2 7 40 ?_
  refine pX HT_ 3 15 41 ?_
  refine pX HT_ 4 31 42 ?_
  refine tX HT_ HW_ hHeld 5 63 43 ?_
  refine tX HT_ HW_ hHeld 6 127 44 ?_
  refine tX HT_ HW_ hHeld 7 255 45 ?_
  refine pX HT_ 8 511 46 ?_
  refine oX HT_ 9 1023 (some 47) (fun K hK => ?_)
  refine value_ (by kernel_rfl) rfl (by go_simp; exact ⟨rfl, rfl⟩) ?_
  refine hK.out _ _ ⟨(blk_cell (blk_alloc HI5.out.blk _) 5).trans (congrArg some hv2), (blk_cell (blk_alloc HV5.out _) 0).trans rfl, (blk_cell (blk_alloc HV5.out _) 1).trans rfl, (blk_cell (blk_alloc HV5.out _) 2).trans rfl, (blk_cell (blk_alloc HV5.out _) 3).trans rfl, (blk_cell (blk_alloc HV5.out _) 4).trans rfl, (blk_cell (blk_alloc HU5.out _) 0).trans rfl, (blk_cell (blk_alloc HU5.out _) 1).trans rfl, (blk_cell (blk_alloc HU5.out _) 2).trans rfl, (blk_cell (blk_alloc HU5.out _) 3).trans rfl, (blk_cell (blk_alloc HU5.out _) 4).trans rfl⟩ (fun hHeld => ?_)
  clear hK K
  refine norm_ nX ?_
  refine oX HT_ 10 2047 (some 48) (fun K hK => ?_)
  refine Kd.R_append_step k90 (w0 := W5) w1.heap.size (by kernel_rfl) (.tmp 43) (.tmp 47) 53 90 _ 112 rfl Tryz.underlying53 info90 rfl (by decide) (by decide) (.slice A2 x.retr.length c2) x.retr (⟨va, vb⟩ : Sp) _ (fun k => w1.heap.size ≤ k) (fun _ => False) rfl rfl (k90_mkM _ _ _ (⟨va, vb⟩ : Sp)) (fun _ h => h.elim) (fun k hk => Nat.le_trans HI5.out.moves.size hk) (hv2 ▸ HI5.out.o5) (Below.refl _ _) HI5.out.moves.size HLN.out ?_
  intro v1 w5 ho hb5 hg hat
  obtain ⟨A3, c3, rfl⟩ := Kd.R_slice ho
  obtain ⟨ln, hln⟩ : ∃ n, n = (x.retr ++ [(⟨va, vb⟩ : Sp)]).length := ⟨_, rfl⟩
  rw [← hln] at ho hat
  rw [← hln]
  clear hln
  rw [← hv2] at hg hat
  have hP5 := blk_grown HI5.out.blk hg (fun e => by have := HI5.out.o5.1 P e.symm; have := HI5.out.lt; omega)
  have hV5 := blk_grown HV5.out hg (fun e => by have := ((Kd.R_bound HI1.out.o5).1 _ e.symm).2.2.1; omega)
  have hU5 := blk_grown HU5.out hg (fun e => by have := ((Kd.R_bound HI3.out.o5).1 _ e.symm).2.2.1; omega)
  have HI6 := Aside0.mk (HI5.out.app5 ho hg hat)
  have HV6 := Aside0.mk ((Below.heap_setCell w5 ⟨P, 5, none⟩ (.slice A3 ln c3) _ (by show W1.heap.size ≠ P; have := HI1.out.lt; have := HI1.out.moves.size; omega)).trans hV5)
  have HU6 := Aside0.mk ((Below.heap_setCell w5 ⟨P, 5, none⟩ (.slice A3 ln c3) _ (by show W3.heap.size ≠ P; have := HI3.out.lt; have := HI3.out.moves.size; omega)).trans hU5)
  show K (Act.put _ (some 48) (.slice A3 ln c3)) w5
  refine hK.out _ _ ⟨(blk_cell hP5 5).trans (congrArg some hv2), (blk_cell hV5 0).trans rfl, (blk_cell hV5 1).trans rfl, (blk_cell hV5 2).trans rfl, (blk_cell hV5 3).trans rfl, (blk_cell hV5 4).trans rfl, (blk_cell hU5 0).trans rfl, (blk_cell hU5 1).trans rfl, (blk_cell hU5 2).trans rfl, (blk_cell hU5 3).trans rfl, (blk_cell hU5 4).trans rfl⟩ (fun hHeld => ?_)
  clear hK K
  refine norm_ nX ?_
  refine pX HT_ 11 4095 49 ?_
  refine pX HT_ 12 8191 50 ?_
  refine pX HT_ 13 16383 51 ?_
  have hf := blk_frozen hP5 5
  have hcc := (blk_cell hP5 5).trans rfl
  refine lX HT_ 14 32767 (none) (fun K hK => ?_)
  refine skip_ (w1 := w5.setCell ⟨P, 5, none⟩ (.slice A3 ln c3)) (by kernel_rfl) rfl (by go_simp) ?_
  refine hK.out _ _ ?_
  clear hK K
  refine eX HT_ ?_
  clear HT_ HW_ hHeld hf hcc hP5 hV5 hU5 xb
  generalize w5.setCell ⟨P, 5, none⟩ (.slice A3 ln c3) = W6 at HI6 HV6 HU6 ⊢
  obtain ⟨a0, a1, a2, a3, a4⟩ : W6.cell? ⟨W1.heap.size, 0, none⟩ = some (.int .i64 va.f0) ∧ W6.cell? ⟨W1.heap.size, 1, none⟩ = some (.int .i64 va.f1) ∧ W6.cell? ⟨W1.heap.size, 2, none⟩ = some (.int .i64 va.f2) ∧ W6.cell? ⟨W1.heap.size, 3, none⟩ = some (.string va.f3) ∧ W6.cell? ⟨W1.heap.size, 4, none⟩ = some (.string va.f4) := ⟨(blk_cell HV6.out 0).trans rfl, (blk_cell HV6.out 1).trans rfl, (blk_cell HV6.out 2).trans rfl, (blk_cell HV6.out 3).trans rfl, (blk_cell HV6.out 4).trans rfl⟩
  obtain ⟨u0, u1, u2, u3, u4⟩ : W6.cell? ⟨W3.heap.size, 0, none⟩ = some (.int .i64 vb.f0) ∧ W6.cell? ⟨W3.heap.size, 1, none⟩ = some (.int .i64 vb.f1) ∧ W6.cell? ⟨W3.heap.size, 2, none⟩ = some (.int .i64 vb.f2) ∧ W6.cell? ⟨W3.heap.size, 3, none⟩ = some (.string vb.f3) ∧ W6.cell? ⟨W3.heap.size, 4, none⟩ = some (.string vb.f4) := ⟨(blk_cell HU6.out 0).trans rfl, (blk_cell HU6.out 1).trans rfl, (blk_cell HU6.out 2).trans rfl, (blk_cell HU6.out 3).trans rfl, (blk_cell HU6.out 4).trans rfl⟩
  cases b1 with
  | false =>
    go_wp2_with (go_at_call 166; refine (fail_calls _ 7 _).mono ?_; rintro e W8 ⟨rfl, rfl⟩)
    go_ret
    exact ⟨by rw [HE.out]; rfl, { p with v5 := .slice A3 ln c3 }, rfl, by rw [HE.out]; exact HI6.out⟩
  | true =>
    cases b2 with
    | false =>
      go_wp2_with (go_at_call 166; refine (fail_calls _ 7 _).mono ?_; rintro e W8 ⟨rfl, rfl⟩)
      go_ret
      exact ⟨by rw [HE.out]; rfl, { p with v5 := .slice A3 ln c3 }, rfl, by rw [HE.out]; exact HI6.out⟩
    | true =>
      cases b3 with
      | true =>
        go_wp2_with (first | (go_at_call 171; with_reducible refine (HCM.out _ HI6.out).mono ?_; rintro e W7 ⟨rfl, hb⟩; have HI7 := Aside0.mk (HI6.out.step hb); clear hb) | (go_at_call 166; refine (fail_calls _ 7 _).mono ?_; rintro e W8 ⟨rfl, rfl⟩))
        go_ret
        exact ⟨by rw [HE.out]; rfl, { p with v5 := .slice A3 ln c3 }, rfl, by rw [HE.out]; exact HI7.out⟩
      | false =>
        go_wp2_with (first | (go_at_call 171; with_reducible refine (HCM.out _ HI6.out).mono ?_; rintro e W7 ⟨rfl, hb⟩; have HI7 := Aside0.mk (HI6.out.step hb); clear hb) | (go_at_call 166; refine (fail_calls _ 7 _).mono ?_; rintro e W8 ⟨rfl, rfl⟩))
        go_ret
        exact ⟨by rw [HE.out]; rfl, { p with v5 := .slice A3 ln c3 }, rfl, by rw [HE.out]; exact HI7.out⟩
set_option maxRecDepth 100000 in
set_option maxHeartbeats 4000000 in
theorem retract_two (w0 w1 : World) (P : Nat) (p : PVals) (x : Ps) (o a m b s : Wd) (ha : a.f0.size ≤ 400000) (hb : b.f0.size ≤ 400000) (hln : x.retr.length ≤ 1000000) (A : Option Addr) (c : Nat) (w : World) (hG : GW w0) (hI : PsIs w0 w1 P p x w) (hC : Kd.C k159 w A 5 [o, a, m, b, s]) :
    Calls Tryz.prog 134 #[.pointer (some ⟨P, 0, none⟩), .slice A 5 c] w fun e w' => e = .returned (errV (retP x a.f0 b.f0).2) ∧ ∃ p', p'.m = p.m ∧ PsIs w0 w1 P p' (retP x a.f0 b.f0).1 w' := by
  obtain ⟨ad, rfl, _⟩ := words_at hC 0 (by decide) (x := o) rfl
  have HGW : Aside0 (∀ W, Below w.heap.size w W → W.cell? ⟨ad.block, ad.off + 2, none⟩ = some (.string a.f0) ∧ W.cell? ⟨ad.block, ad.off + 2 + 1, none⟩ = some (.int .i64 a.f1) ∧ W.cell? ⟨ad.block, ad.off + 6, none⟩ = some (.string b.f0) ∧ W.cell? ⟨ad.block, ad.off + 6 + 1, none⟩ = some (.int .i64 b.f1)) := ⟨fun W h => by
    obtain ⟨ad1, e1, p1, q1⟩ := words_at (Kd.C_below hC h) 1 (by decide) (x := a) rfl
    obtain ⟨ad2, e2, p2, q2⟩ := words_at (Kd.C_below hC h) 3 (by decide) (x := b) rfl
    obtain rfl := Option.some.inj e1
    obtain rfl := Option.some.inj e2
    exact ⟨p1, q1, p2, q2⟩⟩
  have HVA : Aside0 (∀ W, PsIs w0 w1 P p x W → Calls Tryz.prog 170 #[.string a.f0] W fun e w' => e = .returned (.tuple #[.agg (vrv (verP a.f0)), .bool (verI a.f0)]) ∧ Below W.heap.size W w') := ⟨fun W h => vparse_calls a.f0 ha W (hG.below h.below)⟩
  have HVB : Aside0 (∀ W, PsIs w0 w1 P p x W → Calls Tryz.prog 170 #[.string b.f0] W fun e w' => e = .returned (.tuple #[.agg (vrv (verP b.f0)), .bool (verI b.f0)]) ∧ Below W.heap.size W w') := ⟨fun W h => vparse_calls b.f0 hb W (hG.below h.below)⟩
  have HCM : Aside0 (∀ (W : World) {pq : PVals} {y : Ps}, PsIs w0 w1 P pq y W → Calls Tryz.prog 171 #[.agg (vrv (verP a.f0)), .agg (vrv (verP b.f0))] W fun e w' => e = .returned (.int .i64 (vcm (verP a.f0) (verP b.f0))) ∧ Below W.heap.size W w') := ⟨fun W pq y h => compare_calls _ _ _ _ _ _ _ _ _ _ W (hG.below h.below)⟩
  have HE : Aside0 (retP x a.f0 b.f0 = ({ x with retr := x.retr ++ [⟨verP a.f0, verP b.f0⟩] }, if verI a.f0 = false then 7 else if verI b.f0 = false then 7 else if decide (vcm (verP a.f0) (verP b.f0) > 0) = true then 7 else 0)) := ⟨by unfold retP; simp only [decide_eq_true_eq]⟩
  have HLN : Aside0 ((x.retr.length + 1) * 112 ≤ 140737488355328) := ⟨by omega⟩
  have HI := Aside0.mk hI
  obtain ⟨A2, c2, hv2⟩ := Kd.R_slice hI.o5
  generalize retP x a.f0 b.f0 = ro at HE ⊢
  obtain ⟨va, hva⟩ : ∃ v, v = verP a.f0 := ⟨_, rfl⟩
  obtain ⟨vb, hvb⟩ : ∃ v, v = verP b.f0 := ⟨_, rfl⟩
  obtain ⟨b1, hb1⟩ : ∃ v, v = verI a.f0 := ⟨_, rfl⟩
  obtain ⟨b2, hb2⟩ : ∃ v, v = verI b.f0 := ⟨_, rfl⟩
  rw [← hva, ← hb1] at HVA
  rw [← hvb, ← hb2] at HVB
  rw [← hva, ← hvb] at HCM
  rw [← hva, ← hvb, ← hb1, ← hb2] at HE
  obtain ⟨z, hz⟩ : ∃ z, z = vcm va vb := ⟨_, rfl⟩
  rw [← hz] at HCM HE
  obtain ⟨b3, hb3⟩ : ∃ b, b = decide (z > 0) := ⟨_, rfl⟩
  rw [← hb3] at HE
  replace hb3 := hb3.symm
  clear hG hC hI hln hva hvb hb1 hb2 hz
  go_enter Tryz.func134, Tryz.ntmps134
  clear ha hb
  go_wp2
  have HI9 := Aside0.mk (HI.out.step (below_drew1 (Below.refl _ _)))
  have HB9 := Aside0.mk (below_drew1 (Below.refl w.heap.size w))
  refine sX (ds := []) (S := fun w' => w'.cell? ⟨ad.block, ad.off + 2, none⟩ = some (.string a.f0) ∧ w'.cell? ⟨ad.block, ad.off + 2 + 1, none⟩ = some (.int .i64 a.f1) ∧ w'.cell? ⟨ad.block, ad.off + 6, none⟩ = some (.string b.f0) ∧ w'.cell? ⟨ad.block, ad.off + 6 + 1, none⟩ = some (.int .i64 b.f1)) rt2.tab2 rt2.bits2 (HGW.out _ HB9.out) (fun HT_ HW_ hHeld => ?_)
  generalize w.drew = W9 at HI9 HB9 hHeld ⊢
  refine pX HT_ 0 1 12 ?_
  refine pX HT_ 1 3 13 ?_
  refine pX HT_ 3 11 15 ?_
  refine pX HT_ 4 27 16 ?_
  refine tX HT_ HW_ hHeld 2 31 14 ?_
  refine tX HT_ HW_ hHeld 5 63 17 ?_
  refine oX HT_ 6 127 (some 18) (fun K hK => ?_)
  refine value_ (by kernel_rfl) rfl (by go_simp; exact ⟨rfl, rfl⟩) ?_
  refine hK.out _ _ (HGW.out _ (below_alloc HB9.out _)) (fun hHeld => ?_)
  clear hK K
  refine norm_ nX ?_
  refine pX HT_ 7 255 1 ?_
  refine eX HT_ ?_
  clear HT_ HW_ hHeld
  have hnew := heap_alloc_new W9 (.cells #[.string a.f0, .int .i64 a.f1, .string b.f0, .int .i64 b.f1] 159)
  have hba := below_alloc (Below.refl W9.heap.size W9) (.cells #[.string a.f0, .int .i64 a.f1, .string b.f0, .int .i64 b.f1] 159)
  have HI0 := Aside0.mk (HI9.out.step hba)
  clear hba
  generalize W9.alloc (.cells #[.string a.f0, .int .i64 a.f1, .string b.f0, .int .i64 b.f1] 159) = w5 at HI0 hnew ⊢
  have HGX : Aside0 (∀ W, Below w5.heap.size w5 W → W.cell? ⟨W9.heap.size, 0, none⟩ = some (.string a.f0) ∧ W.cell? ⟨W9.heap.size, 2, none⟩ = some (.string b.f0)) := ⟨fun W h => ⟨(blk_cell (blk_below hnew h) 0).trans rfl, (blk_cell (blk_below hnew h) 2).trans rfl⟩⟩
  have HB0 := Aside0.mk (Below.refl w5.heap.size w5)
  clear hnew
  have xa := (HGX.out _ HB0.out).1
  go_wp2_with (first | (go_at_call 170; with_reducible refine (HVA.out _ HI0.out).mono ?_; rintro e W1 ⟨rfl, hb⟩; have HI1 := Aside0.mk (HI0.out.step hb); have HB1 := Aside0.mk (below_step HB0.out hb); clear hb HVA) | ((with_reducible refine gate_ (.store 23 (.tmp 5) (.tmp 25)) rfl ?_); refine store_ev 23 (.tmp 5) (.tmp 25) rfl rfl rfl 0 (vrv va).toList (heap_alloc_new W1 _) rfl rfl rfl (by kernel_rfl) (show 0 + 5 ≤ 5 by decide) (by simp [Value.oneCell']) rfl ?_; intro W2 hn hg; have HV2 := Aside0.mk hn; have hb2 := fresh_below hg; have HI2 := Aside0.mk (HI1.out.step hb2); have HB2 := Aside0.mk (below_step HB1.out hb2); have xb := (HGX.out _ HB2.out).2; clear hn hg hb2) | (go_at_call 170; with_reducible refine (HVB.out _ HI2.out).mono ?_; rintro e W3 ⟨rfl, hb⟩; have HI3 := Aside0.mk (HI2.out.step hb); have HV3 := Aside0.mk (blk_below HV2.out hb); have HB3 := Aside0.mk (show Below W2.heap.size W2 W3 from hb); clear hb HVB) | ((with_reducible refine gate_ (.store 23 (.tmp 7) (.tmp 36)) rfl ?_); refine store_ev 23 (.tmp 7) (.tmp 36) rfl rfl rfl 0 (vrv vb).toList (heap_alloc_new W3 _) rfl rfl rfl (by kernel_rfl) (show 0 + 5 ≤ 5 by decide) (by simp [Value.oneCell']) rfl ?_; intro W4 hn hg; have HU4 := Aside0.mk hn; have hb4 := fresh_below hg; have HI4 := Aside0.mk (HI3.out.step hb4); have HV4 := Aside0.mk (blk_below HV3.out hb4); clear hn hg hb4))
  have HI5 := Aside0.mk (HI4.out.step (below_drew1 (Below.refl _ _)))
  have HV5 := Aside0.mk (blk_drew HV4.out)
  have HU5 := Aside0.mk (blk_drew HU4.out)
  refine sX (ds := [14]) (S := fun w' => w'.cell? ⟨P, 5, none⟩ = some (.slice A2 x.retr.length c2) ∧ w'.cell? ⟨W1.heap.size, 0, none⟩ = some (.int .i64 va.f0) ∧ w'.cell? ⟨W1.heap.size, 1, none⟩ = some (.int .i64 va.f1) ∧ w'.cell? ⟨W1.heap.size, 2, none⟩ = some (.int .i64 va.f2) ∧ w'.cell? ⟨W1.heap.size, 3, none⟩ = some (.string va.f3) ∧ w'.cell? ⟨W1.heap.size, 4, none⟩ = some (.string va.f4) ∧ w'.cell? ⟨W3.heap.size, 0, none⟩ = some (.int .i64 vb.f0) ∧ w'.cell? ⟨W3.heap.size, 1, none⟩ = some (.int .i64 vb.f1) ∧ w'.cell? ⟨W3.heap.size, 2, none⟩ = some (.int .i64 vb.f2) ∧ w'.cell? ⟨W3.heap.size, 3, none⟩ = some (.string vb.f3) ∧ w'.cell? ⟨W3.heap.size, 4, none⟩ = some (.string vb.f4)) rt5.tab5 rt5.bits5 ⟨(blk_cell HI5.out.blk 5).trans (congrArg some hv2), (blk_cell HV5.out 0).trans rfl, (blk_cell HV5.out 1).trans rfl, (blk_cell HV5.out 2).trans rfl, (blk_cell HV5.out 3).trans rfl, (blk_cell HV5.out 4).trans rfl, (blk_cell HU5.out 0).trans rfl, (blk_cell HU5.out 1).trans rfl, (blk_cell HU5.out 2).trans rfl, (blk_cell HU5.out 3).trans rfl, (blk_cell HU5.out 4).trans rfl⟩ (fun HT_ HW_ hHeld => ?_)
  generalize W4.drew = W5 at HI5 HV5 HU5 hHeld ⊢
  refine pX HT_ 0 1 38 ?_
  refine pX HT_ 1 3 39 ?_
  refine pX HT_ 2 7 40 ?_
  refine pX HT_ 3 15 41 ?_
  refine pX HT_ 4 31 42 ?_
  refine tX HT_ HW_ hHeld 5 63 43 ?_
  refine tX HT_ HW_ hHeld 6 127 44 ?_
  refine tX HT_ HW_ hHeld 7 255 45 ?_
  refine pX HT_ 8 511 46 ?_
  refine oX HT_ 9 1023 (some 47) (fun K hK => ?_)
  refine value_ (by kernel_rfl) rfl (by go_simp; exact ⟨rfl, rfl⟩) ?_
  refine hK.out _ _ ⟨(blk_cell (blk_alloc HI5.out.blk _) 5).trans (congrArg some hv2), (blk_cell (blk_alloc HV5.out _) 0).trans rfl, (blk_cell (blk_alloc HV5.out _) 1).trans rfl, (blk_cell (blk_alloc HV5.out _) 2).trans rfl, (blk_cell (blk_alloc HV5.out _) 3).trans rfl, (blk_cell (blk_alloc HV5.out _) 4).trans rfl, (blk_cell (blk_alloc HU5.out _) 0).trans rfl, (blk_cell (blk_alloc HU5.out _) 1).trans rfl, (blk_cell (blk_alloc HU5.out _) 2).trans rfl, (blk_cell (blk_alloc HU5.out _) 3).trans rfl, (blk_cell (blk_alloc HU5.out _) 4).trans rfl⟩ (fun hHeld => ?_)
  clear hK K
  refine norm_ nX ?_
  refine oX HT_ 10 2047 (some 48) (fun K hK => ?_)
  refine Kd.R_append_step k90 (w0 := W5) w1.heap.size (by kernel_rfl) (.tmp 43) (.tmp 47) 53 90 _ 112 rfl Tryz.underlying53 info90 rfl (by decide) (by decide) (.slice A2 x.retr.length c2) x.retr (⟨va, vb⟩ : Sp) _ (fun k => w1.heap.size ≤ k) (fun _ => False) rfl rfl (k90_mkM _ _ _ (⟨va, vb⟩ : Sp)) (fun _ h => h.elim) (fun k hk => Nat.le_trans HI5.out.moves.size hk) (hv2 ▸ HI5.out.o5) (Below.refl _ _) HI5.out.moves.size HLN.out ?_
  intro v1 w5 ho hb5 hg hat
  obtain ⟨A3, c3, rfl⟩ := Kd.R_slice ho
  obtain ⟨ln, hln⟩ : ∃ n, n = (x.retr ++ [(⟨va, vb⟩ : Sp)]).length := ⟨_, rfl⟩
  rw [← hln] at ho hat
  rw [← hln]
  clear hln
  rw [← hv2] at hg hat
  have hP5 := blk_grown HI5.out.blk hg (fun e => by have := HI5.out.o5.1 P e.symm; have := HI5.out.lt; omega)
  have hV5 := blk_grown HV5.out hg (fun e => by have := ((Kd.R_bound HI1.out.o5).1 _ e.symm).2.2.1; omega)
  have hU5 := blk_grown HU5.out hg (fun e => by have := ((Kd.R_bound HI3.out.o5).1 _ e.symm).2.2.1; omega)
  have HI6 := Aside0.mk (HI5.out.app5 ho hg hat)
  have HV6 := Aside0.mk ((Below.heap_setCell w5 ⟨P, 5, none⟩ (.slice A3 ln c3) _ (by show W1.heap.size ≠ P; have := HI1.out.lt; have := HI1.out.moves.size; omega)).trans hV5)
  have HU6 := Aside0.mk ((Below.heap_setCell w5 ⟨P, 5, none⟩ (.slice A3 ln c3) _ (by show W3.heap.size ≠ P; have := HI3.out.lt; have := HI3.out.moves.size; omega)).trans hU5)
  show K (Act.put _ (some 48) (.slice A3 ln c3)) w5
  refine hK.out _ _ ⟨(blk_cell hP5 5).trans (congrArg some hv2), (blk_cell hV5 0).trans rfl, (blk_cell hV5 1).trans rfl, (blk_cell hV5 2).trans rfl, (blk_cell hV5 3).trans rfl, (blk_cell hV5 4).trans rfl, (blk_cell hU5 0).trans rfl, (blk_cell hU5 1).trans rfl, (blk_cell hU5 2).trans rfl, (blk_cell hU5 3).trans rfl, (blk_cell hU5 4).trans rfl⟩ (fun hHeld => ?_)
  clear hK K
  refine norm_ nX ?_
  refine pX HT_ 11 4095 49 ?_
  refine pX HT_ 12 8191 50 ?_
  refine pX HT_ 13 16383 51 ?_
  have hf := blk_frozen hP5 5
  have hcc := (blk_cell hP5 5).trans rfl
  refine lX HT_ 14 32767 (none) (fun K hK => ?_)
  refine skip_ (w1 := w5.setCell ⟨P, 5, none⟩ (.slice A3 ln c3)) (by kernel_rfl) rfl (by go_simp) ?_
  refine hK.out _ _ ?_
  clear hK K
  refine eX HT_ ?_
  clear HT_ HW_ hHeld hf hcc hP5 hV5 hU5 xb
  generalize w5.setCell ⟨P, 5, none⟩ (.slice A3 ln c3) = W6 at HI6 HV6 HU6 ⊢
  obtain ⟨a0, a1, a2, a3, a4⟩ : W6.cell? ⟨W1.heap.size, 0, none⟩ = some (.int .i64 va.f0) ∧ W6.cell? ⟨W1.heap.size, 1, none⟩ = some (.int .i64 va.f1) ∧ W6.cell? ⟨W1.heap.size, 2, none⟩ = some (.int .i64 va.f2) ∧ W6.cell? ⟨W1.heap.size, 3, none⟩ = some (.string va.f3) ∧ W6.cell? ⟨W1.heap.size, 4, none⟩ = some (.string va.f4) := ⟨(blk_cell HV6.out 0).trans rfl, (blk_cell HV6.out 1).trans rfl, (blk_cell HV6.out 2).trans rfl, (blk_cell HV6.out 3).trans rfl, (blk_cell HV6.out 4).trans rfl⟩
  obtain ⟨u0, u1, u2, u3, u4⟩ : W6.cell? ⟨W3.heap.size, 0, none⟩ = some (.int .i64 vb.f0) ∧ W6.cell? ⟨W3.heap.size, 1, none⟩ = some (.int .i64 vb.f1) ∧ W6.cell? ⟨W3.heap.size, 2, none⟩ = some (.int .i64 vb.f2) ∧ W6.cell? ⟨W3.heap.size, 3, none⟩ = some (.string vb.f3) ∧ W6.cell? ⟨W3.heap.size, 4, none⟩ = some (.string vb.f4) := ⟨(blk_cell HU6.out 0).trans rfl, (blk_cell HU6.out 1).trans rfl, (blk_cell HU6.out 2).trans rfl, (blk_cell HU6.out 3).trans rfl, (blk_cell HU6.out 4).trans rfl⟩
  cases b1 with
  | false =>
    go_wp2_with (go_at_call 166; refine (fail_calls _ 7 _).mono ?_; rintro e W8 ⟨rfl, rfl⟩)
    go_ret
    exact ⟨by rw [HE.out]; rfl, { p with v5 := .slice A3 ln c3 }, rfl, by rw [HE.out]; exact HI6.out⟩
  | true =>
    cases b2 with
    | false =>
      go_wp2_with (go_at_call 166; refine (fail_calls _ 7 _).mono ?_; rintro e W8 ⟨rfl, rfl⟩)
      go_ret
      exact ⟨by rw [HE.out]; rfl, { p with v5 := .slice A3 ln c3 }, rfl, by rw [HE.out]; exact HI6.out⟩
    | true =>
      cases b3 with
      | true =>
        go_wp2_with (first | (go_at_call 171; with_reducible refine (HCM.out _ HI6.out).mono ?_; rintro e W7 ⟨rfl, hb⟩; have HI7 := Aside0.mk (HI6.out.step hb); clear hb) | (go_at_call 166; refine (fail_calls _ 7 _).mono ?_; rintro e W8 ⟨rfl, rfl⟩))
        go_ret
        exact ⟨by rw [HE.out]; rfl, { p with v5 := .slice A3 ln c3 }, rfl, by rw [HE.out]; exact HI7.out⟩
      | false =>
        go_wp2_with (first | (go_at_call 171; with_reducible refine (HCM.out _ HI6.out).mono ?_; rintro e W7 ⟨rfl, hb⟩; have HI7 := Aside0.mk (HI6.out.step hb); clear hb) | (go_at_call 166; refine (fail_calls _ 7 _).mono ?_; rintro e W8 ⟨rfl, rfl⟩))
        go_ret
        exact ⟨by rw [HE.out]; rfl, { p with v5 := .slice A3 ln c3 }, rfl, by rw [HE.out]; exact HI7.out⟩
end Go.Proofs.YtmbpefnhkimplaaGreatDoor
end
