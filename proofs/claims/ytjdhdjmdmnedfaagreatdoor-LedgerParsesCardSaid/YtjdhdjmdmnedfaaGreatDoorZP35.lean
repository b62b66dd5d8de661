/- The texts LRw, RAx0, RAx1, RAx, REx0 in one file, without what these claims do not use (put together by prune2.py). -/
import Derived.Test.YtjdhdjmdmnedfaaGreatDoorZP33
import Derived.Test.YtjdhdjmdmnedfaaGreatDoorZP34
import Derived.Test.YtjdhdjmdmnedfaaGreatDoorZP4
import Derived.Test.YtjdhdjmdmnedfaaGreatDoorZP30
import Derived.Test.YtjdhdjmdmnedfaaGreatDoorZP3
import Derived.Test.YtjdhdjmdmnedfaaGreatDoorZP7
import Derived.Test.YtjdhdjmdmnedfaaGreatDoorZP8
section
namespace Go.Proofs.YtjdhdjmdmnedfaaGreatDoor
open Go Go.RowKit Go.Proofs Go.Proofs.YtjdhdjmdmnedfaaGreatDoorW.PrintWords Go.Proofs.YtjdhdjmdmnedfaaGreatDoorW.PrintLast Go.Proofs.YtjdhdjmdmnedfaaGreatDoor.K0 Go.Proofs.YtjdhdjmdmnedfaaGreatDoor.RD
set_option linter.unusedVariables false
set_option linter.unusedSimpArgs false
theorem rhash_calls (s : ByteArray) (hs : s.size ≤ 1000000) (w : World) : Calls Tryz.prog 44 #[.string s] w fun e w' => e = .returned (.bool (hashOk s.data.toList)) ∧ Below w.heap.size w w' :=
  armadaref14_IsHash.calls (301 + 50 * s.size) s _ w (ref_IsHash_f s hs _ (by omega))
theorem rpath_calls (s : ByteArray) (w : World) : Calls Tryz.prog 41 #[.string s] w fun e w' => e = .returned (.bool (checkOk s)) ∧ Below w.heap.size w w' :=
  armadaref08_Check.calls 401 s _ w (ref_Check_f s _ (by decide))
theorem rver_calls (v : S30) (w : World) : Calls Tryz.prog 42 #[.agg #[.int .i64 v.f0, .int .i64 v.f1, .int .i64 v.f2, .string v.f3, .string v.f4]] w fun e w' => e = .returned (.bool (verOk v.f0 v.f1 v.f2 v.f3 v.f4)) ∧ Below w.heap.size w w' := by
  obtain ⟨K, hK⟩ := ref_ver_Check_f v.f0 v.f1 v.f2 v.f3 v.f4
  exact armadaref07_Check.calls K _ _ _ _ _ _ w (hK K (Nat.le_refl _))
theorem rfits_calls (p : ByteArray) (v : S30) (w : World) : Calls Tryz.prog 43 #[.string p, .agg #[.int .i64 v.f0, .int .i64 v.f1, .int .i64 v.f2, .string v.f3, .string v.f4]] w fun e w' => e = .returned (.bool (fitsOk p v.f0 v.f1 v.f2 v.f3 v.f4)) ∧ Below w.heap.size w w' := by
  obtain ⟨K, hK⟩ := ref_Fits_f p v.f0 v.f1 v.f2 v.f3 v.f4
  exact armadaref08_Fits.calls K p _ _ _ _ _ _ w (hK K (Nat.le_refl _))
def rwr.T12 : Bool × List (List Nat × List Nat) := (true, [([], []), ([], []), ([0, 1], [0, 1]), ([2], [2]), ([3], [3]), ([], []), ([5], [5]), ([4, 6], [4, 6]), ([7], [7]), ([8], [8]), ([8], [8]), ([9, 10, 8], [8, 9, 10]), ([11, 8], [8, 11]), ([12, 8], [8, 12]), ([8], [8]), ([14, 8], [8, 14]), ([13, 15, 8, 8], [8, 13, 15]), ([16, 8], [8, 16]), ([8, 17], [8, 17])])
def rwr.B12 : List Nat := [0, 0, 3, 7, 15, 0, 32, 127, 255, 511, 511, 2047, 4095, 8191, 511, 16895, 65535, 131071, 262143]
theorem rwr.tab12 : rtab .any (opsOf Tryz.f23 12) = rwr.T12 := by kernel_rfl
theorem rwr.bits12 : waitsOk rwr.T12.2 rwr.B12 = true := by kernel_rfl
/-- The tag in its box. -/
structure RwIs (w : World) (t : Tg) (W : World) : Prop where
  base : Below w.heap.size w W
  t : TgAt W w.heap.size t
theorem RwIs.step {w W W' : World} {t : Tg} (h : RwIs w t W) (hb : Below W.heap.size W W') : RwIs w t W' := ⟨below_step h.base hb, blk_below h.t hb⟩
theorem any_take {α : Type} (P : α → Bool) {l : List α} {k : Nat} {x : α} (h : l[k]? = some x) (h0 : (l.take k).any P = false) : (l.take (k + 1)).any P = P x := by
  rw [List.take_add_one, h, List.any_append, h0]
  simp
set_option maxRecDepth 100000 in
set_option maxHeartbeats 4000000 in
theorem rwrong_calls (A : Option Addr) (c : Nat) (l : List Tg) (t : Tg) (w : World) (hr : Kd.C k32 w A l.length l) (hs : t.f2.size ≤ 1000000) :
    Calls Tryz.prog 23 #[.slice A l.length c, .agg (tgc t)] w fun e w' => e = .returned (.int .i64 (wrongT l t)) ∧ Below w.heap.size w w' := by
  have hbig := hr.2.1
  have HR := Aside0.mk hr
  have HS := Aside0.mk (show RwIs w t (w.alloc (.cells (tgc t) 32)) from ⟨below_alloc (Below.refl _ _) _, heap_alloc_new w _⟩)
  have HC1 := Aside0.mk (fun W => rpath_calls t.f0 W)
  have HC2 := Aside0.mk (fun W => rver_calls t.f1 W)
  have HC3 := Aside0.mk (fun W => rfits_calls t.f0 t.f1 W)
  have HC4 := Aside0.mk (fun W => rhash_calls t.f2 hs W)
  obtain ⟨z, hz⟩ : ∃ z, wrongT l t = z := ⟨_, rfl⟩
  rw [hz]
  unfold wrongT at hz
  rw [show tver t = verOk t.f1.f0 t.f1.f1 t.f1.f2 t.f1.f3 t.f1.f4 from rfl, show tfits t = fitsOk t.f0 t.f1.f0 t.f1.f1 t.f1.f2 t.f1.f3 t.f1.f4 from rfl, show thash t = hashOk t.f2.data.toList from rfl] at hz
  generalize checkOk t.f0 = b1 at hz HC1
  generalize verOk t.f1.f0 t.f1.f1 t.f1.f2 t.f1.f3 t.f1.f4 = b2 at hz HC2
  generalize fitsOk t.f0 t.f1.f0 t.f1.f1 t.f1.f2 t.f1.f3 t.f1.f4 = b3 at hz HC3
  generalize hashOk t.f2.data.toList = b4 at hz HC4
  have HZ := Aside0.mk hz.symm
  clear hr hs hz
  go_enter Tryz.func23, Tryz.ntmps23
  go_upto_region 1 with fail
  generalize w.alloc (.cells (tgc t) 32) = W1 at HS ⊢
  obtain ⟨g0, g1, g2, g3, g4, g5, g6⟩ := HS.out.t.cells
  cases b1 with
  | false =>
    obtain rfl : z = 6 := HZ.out.trans (by simp)
    go_wp2_with (first
      | (go_at_call 41; with_reducible refine (HC1.out _).mono ?_; rintro e W2 ⟨rfl, hb⟩; have HS2 := Aside0.mk (HS.out.step hb); clear hb g0 g1 g2 g3 g4 g5 g6; obtain ⟨g0, g1, g2, g3, g4, g5, g6⟩ := HS2.out.t.cells)
      )
    go_ret
    exact ⟨rfl, HS2.out.base⟩
  | true =>
    cases b2 with
    | false =>
      obtain rfl : z = 7 := HZ.out.trans (by simp)
      go_wp2_with (first
        | (go_at_call 41; with_reducible refine (HC1.out _).mono ?_; rintro e W2 ⟨rfl, hb⟩; have HS2 := Aside0.mk (HS.out.step hb); clear hb g0 g1 g2 g3 g4 g5 g6; obtain ⟨g0, g1, g2, g3, g4, g5, g6⟩ := HS2.out.t.cells)
        | (go_at_call 42; with_reducible refine (HC2.out _).mono ?_; rintro e W3 ⟨rfl, hb⟩; have HS3 := Aside0.mk (HS2.out.step hb); clear hb g0 g1 g2 g3 g4 g5 g6; obtain ⟨g0, g1, g2, g3, g4, g5, g6⟩ := HS3.out.t.cells)
        )
      go_ret
      exact ⟨rfl, HS3.out.base⟩
    | true =>
      cases b3 with
      | false =>
        obtain rfl : z = 8 := HZ.out.trans (by simp)
        go_wp2_with (first
          | (go_at_call 41; with_reducible refine (HC1.out _).mono ?_; rintro e W2 ⟨rfl, hb⟩; have HS2 := Aside0.mk (HS.out.step hb); clear hb g0 g1 g2 g3 g4 g5 g6; obtain ⟨g0, g1, g2, g3, g4, g5, g6⟩ := HS2.out.t.cells)
          | (go_at_call 42; with_reducible refine (HC2.out _).mono ?_; rintro e W3 ⟨rfl, hb⟩; have HS3 := Aside0.mk (HS2.out.step hb); clear hb g0 g1 g2 g3 g4 g5 g6; obtain ⟨g0, g1, g2, g3, g4, g5, g6⟩ := HS3.out.t.cells)
          | (go_at_call 43; with_reducible refine (HC3.out _).mono ?_; rintro e W4 ⟨rfl, hb⟩; have HS4 := Aside0.mk (HS3.out.step hb); clear hb g0 g1 g2 g3 g4 g5 g6; obtain ⟨g0, g1, g2, g3, g4, g5, g6⟩ := HS4.out.t.cells)
          )
        go_ret
        exact ⟨rfl, HS4.out.base⟩
      | true =>
        cases b4 with
        | false =>
          obtain rfl : z = 4 := HZ.out.trans (by simp)
          go_wp2_with (first
            | (go_at_call 41; with_reducible refine (HC1.out _).mono ?_; rintro e W2 ⟨rfl, hb⟩; have HS2 := Aside0.mk (HS.out.step hb); clear hb g0 g1 g2 g3 g4 g5 g6; obtain ⟨g0, g1, g2, g3, g4, g5, g6⟩ := HS2.out.t.cells)
            | (go_at_call 42; with_reducible refine (HC2.out _).mono ?_; rintro e W3 ⟨rfl, hb⟩; have HS3 := Aside0.mk (HS2.out.step hb); clear hb g0 g1 g2 g3 g4 g5 g6; obtain ⟨g0, g1, g2, g3, g4, g5, g6⟩ := HS3.out.t.cells)
            | (go_at_call 43; with_reducible refine (HC3.out _).mono ?_; rintro e W4 ⟨rfl, hb⟩; have HS4 := Aside0.mk (HS3.out.step hb); clear hb g0 g1 g2 g3 g4 g5 g6; obtain ⟨g0, g1, g2, g3, g4, g5, g6⟩ := HS4.out.t.cells)
            | (go_at_call 44; with_reducible refine (HC4.out _).mono ?_; rintro e W5 ⟨rfl, hb⟩; have HS5 := Aside0.mk (HS4.out.step hb); clear hb g0 g1 g2 g3 g4 g5 g6; obtain ⟨g0, g1, g2, g3, g4, g5, g6⟩ := HS5.out.t.cells)
            )
          go_ret
          exact ⟨rfl, HS5.out.base⟩
        | true =>
          have HZ2 := Aside0.mk (show z = if l.any (late t) = true then 13 else 0 from HZ.out.trans (by simp))
          clear HZ
          go_wp2_with (first
            | (go_at_call 41; with_reducible refine (HC1.out _).mono ?_; rintro e W2 ⟨rfl, hb⟩; have HS2 := Aside0.mk (HS.out.step hb); clear hb g0 g1 g2 g3 g4 g5 g6; obtain ⟨g0, g1, g2, g3, g4, g5, g6⟩ := HS2.out.t.cells)
            | (go_at_call 42; with_reducible refine (HC2.out _).mono ?_; rintro e W3 ⟨rfl, hb⟩; have HS3 := Aside0.mk (HS2.out.step hb); clear hb g0 g1 g2 g3 g4 g5 g6; obtain ⟨g0, g1, g2, g3, g4, g5, g6⟩ := HS3.out.t.cells)
            | (go_at_call 43; with_reducible refine (HC3.out _).mono ?_; rintro e W4 ⟨rfl, hb⟩; have HS4 := Aside0.mk (HS3.out.step hb); clear hb g0 g1 g2 g3 g4 g5 g6; obtain ⟨g0, g1, g2, g3, g4, g5, g6⟩ := HS4.out.t.cells)
            | (go_at_call 44; with_reducible refine (HC4.out _).mono ?_; rintro e W5 ⟨rfl, hb⟩; have HS5 := Aside0.mk (HS4.out.step hb); clear hb g0 g1 g2 g3 g4 g5 g6; obtain ⟨g0, g1, g2, g3, g4, g5, g6⟩ := HS5.out.t.cells)
            )
          clear HC1 HC2 HC3 HC4 HS HS2 HS3 HS4
          go_loopg [5] l.length (fun gg v5 wr => ∃ kk : Nat, kk ≤ l.length ∧ l.length - kk ≤ gg ∧ v5 = .int .i64 kk ∧ Aside0 ((l.take kk).any (late t) = false) ∧ Aside0 (RwIs w t wr))
          case atStart => exact ⟨0, Nat.zero_le _, by omega, rfl, ⟨rfl⟩, HS5⟩
          case round =>
            clear HS5
            try clear g0 g1 g2 g3 g4 g5 g6
            obtain ⟨kk, hkk, hg, rfl, HNO, HO⟩ := hrel
            by_cases hlt : kk < l.length
            · have hltz : (kk : Int) < (l.length : Int) := by omega
              obtain ⟨x, hx⟩ : ∃ x, l[kk]? = some x := ⟨_, List.getElem?_eq_getElem hlt⟩
              have hxe : rd_T32 l (kk : Int) = x := by
                unfold rd_T32
                rw [Int.toNat_natCast, List.getD_eq_getElem?_getD, hx]; rfl
              have HST := Aside0.mk (any_take (late t) hx HNO.out)
              have HAN := Aside0.mk (fun (h : late t x = true) => (List.any_eq_true.2 ⟨x, List.mem_of_getElem? hx, h⟩ : l.any (late t) = true))
              obtain ⟨ad, hA, _⟩ := at_T32 HR.out (kk : Int) (by omega) (by omega)
              subst hA
              have HGX : Aside0 (∀ W, Below w.heap.size w W → W.cell? (ad.add (kk * 7)) = some (.string x.f0) ∧ W.cell? ⟨(ad.add (kk * 7)).block, (ad.add (kk * 7)).off + 1, none⟩ = some (.int .i64 x.f1.f0) ∧ W.cell? ⟨(ad.add (kk * 7)).block, (ad.add (kk * 7)).off + 2, none⟩ = some (.int .i64 x.f1.f1) ∧ W.cell? ⟨(ad.add (kk * 7)).block, (ad.add (kk * 7)).off + 3, none⟩ = some (.int .i64 x.f1.f2) ∧ W.cell? ⟨(ad.add (kk * 7)).block, (ad.add (kk * 7)).off + 4, none⟩ = some (.string x.f1.f3) ∧ W.cell? ⟨(ad.add (kk * 7)).block, (ad.add (kk * 7)).off + 5, none⟩ = some (.string x.f1.f4)) := ⟨fun W hb => by
                obtain ⟨ad2, hA2, h0, h1, h2, h3, h4, h5, h6⟩ := at_T32 (Kd.C_below HR.out hb) (kk : Int) (by omega) (by omega)
                obtain rfl := Option.some.inj hA2
                rw [hxe] at h0 h1 h2 h3 h4 h5
                rw [Int.toNat_natCast] at h0 h1 h2 h3 h4 h5
                exact ⟨h0, h1, h2, h3, h4, h5⟩⟩
              obtain ⟨g0, g1, g2, g3, g4, g5⟩ := HGX.out wr HO.out.base
              clear hx hxe
              go_wp2
              refine sX (ds := []) (S := fun w' => TgC w' w.heap.size t ∧ w'.cell? (ad.add (kk * 7)) = some (.string x.f0) ∧ w'.cell? ⟨(ad.add (kk * 7)).block, (ad.add (kk * 7)).off + 1, none⟩ = some (.int .i64 x.f1.f0) ∧ w'.cell? ⟨(ad.add (kk * 7)).block, (ad.add (kk * 7)).off + 2, none⟩ = some (.int .i64 x.f1.f1) ∧ w'.cell? ⟨(ad.add (kk * 7)).block, (ad.add (kk * 7)).off + 3, none⟩ = some (.int .i64 x.f1.f2) ∧ w'.cell? ⟨(ad.add (kk * 7)).block, (ad.add (kk * 7)).off + 4, none⟩ = some (.string x.f1.f3) ∧ w'.cell? ⟨(ad.add (kk * 7)).block, (ad.add (kk * 7)).off + 5, none⟩ = some (.string x.f1.f4)) rwr.tab12 rwr.bits12 ⟨TgAt.cells (blk_drew HO.out.t), g0, g1, g2, g3, g4, g5⟩ (fun HT_ HW_ hHeld => ?_)
              have HO2 := Aside0.mk (HO.out.step (below_drew1 (Below.refl _ _)))
              generalize wr.drew = w2 at HO2 hHeld ⊢
              clear g0 g1 g2 g3 g4 g5 HO
              refine pX HT_ 0 1 30 ?_
              refine pX HT_ 1 3 31 ?_
              refine pX HT_ 2 7 32 ?_
              refine pX HT_ 3 15 33 ?_
              refine pX HT_ 5 47 35 ?_
              refine tX HT_ HW_ hHeld 4 63 34 ?_
              refine tX HT_ HW_ hHeld 6 127 36 ?_
              cases hp : (x.f0.toList == t.f0.toList) with
              | false =>
                have HNL : Aside0 (late t x = false) := ⟨by unfold late; rw [decide_eq_false (fun e : x.f0 = t.f0 => by rw [e] at hp; simp at hp)]; rfl⟩
                refine pX HT_ 7 255 37 ?_
                refine pX HT_ 8 511 38 ?_
                refine fX HT_ 9 1023 39 ?_
                refine fX HT_ 10 2047 40 ?_
                refine fX HT_ 11 4095 41 ?_
                refine fX HT_ 12 8191 42 ?_
                refine fX HT_ 13 16383 43 ?_
                refine fX HT_ 14 32767 44 ?_
                refine fX HT_ 15 65535 45 ?_
                refine fX HT_ 16 131071 46 ?_
                refine fX HT_ 17 262143 47 ?_
                refine pX HT_ 18 524287 48 ?_
                refine eX HT_ ?_
                clear HT_ HW_ hHeld
                go_wp2
                go_roundg (l.length - (kk + 1))
                case measure => omega
                case rel => exact ⟨kk + 1, by omega, by omega, by go_num, ⟨HST.out.trans HNL.out⟩, HO2⟩
              | true =>
                have hpath : x.f0 = t.f0 := (toList_eq_iff _ _).1 (by simpa using hp)
                have hcmp := fun W => rlcmp_calls x t W
                have HLT : Aside0 (late t x = decide (0 ≤ tcmp x t)) := ⟨by unfold late; rw [decide_eq_true hpath]; rfl⟩
                clear hpath
                generalize tcmp x t = q at hcmp HLT
                by_cases hz : q ≥ 0
                · have HYE : Aside0 (late t x = true) := ⟨HLT.out.trans (decide_eq_true hz)⟩
                  have hzd : decide (q ≥ 0) = true := decide_eq_true hz
                  have HZ13 : Aside0 (z = 13) := ⟨HZ2.out.trans (if_pos (HAN.out HYE.out))⟩
                  clear hz
                  refine pX HT_ 7 255 37 ?_
                  refine pX HT_ 8 511 38 ?_
                  refine pX HT_ 9 1023 39 ?_
                  refine pX HT_ 10 2047 40 ?_
                  refine pX HT_ 11 4095 41 ?_
                  refine pX HT_ 12 8191 42 ?_
                  refine pX HT_ 14 24575 44 ?_
                  refine tX HT_ HW_ hHeld 13 32767 43 ?_
                  refine tX HT_ HW_ hHeld 15 65535 45 ?_
                  refine gX HT_ 16 131071 46 Tryz.func27 (hcmp w2) ?_
                  rintro e w3 ⟨rfl, hb⟩
                  have HO3 := Aside0.mk (HO2.out.step hb)
                  have hG3 := HGX.out w3 HO3.out.base
                  clear HO2 hHeld hb hcmp
                  refine ⟨_, rfl, _, nX, ⟨HO3.out.t.cells, hG3⟩, fun hHeld => ?_⟩
                  refine pX HT_ 17 262143 47 ?_
                  refine pX HT_ 18 524287 48 ?_
                  refine eX HT_ ?_
                  clear HT_ HW_ hHeld
                  go_wp2
                  go_ret
                  exact ⟨by rw [HZ13.out]; rfl, HO3.out.base⟩
                · have HYE : Aside0 (late t x = false) := ⟨HLT.out.trans (decide_eq_false hz)⟩
                  have hzd : decide (q ≥ 0) = false := decide_eq_false hz
                  clear hz
                  refine pX HT_ 7 255 37 ?_
                  refine pX HT_ 8 511 38 ?_
                  refine pX HT_ 9 1023 39 ?_
                  refine pX HT_ 10 2047 40 ?_
                  refine pX HT_ 11 4095 41 ?_
                  refine pX HT_ 12 8191 42 ?_
                  refine pX HT_ 14 24575 44 ?_
                  refine tX HT_ HW_ hHeld 13 32767 43 ?_
                  refine tX HT_ HW_ hHeld 15 65535 45 ?_
                  refine gX HT_ 16 131071 46 Tryz.func27 (hcmp w2) ?_
                  rintro e w3 ⟨rfl, hb⟩
                  have HO3 := Aside0.mk (HO2.out.step hb)
                  have hG3 := HGX.out w3 HO3.out.base
                  clear HO2 hHeld hb hcmp
                  refine ⟨_, rfl, _, nX, ⟨HO3.out.t.cells, hG3⟩, fun hHeld => ?_⟩
                  refine pX HT_ 17 262143 47 ?_
                  refine pX HT_ 18 524287 48 ?_
                  refine eX HT_ ?_
                  clear HT_ HW_ hHeld
                  go_wp2
                  go_roundg (l.length - (kk + 1))
                  case measure => omega
                  case rel => exact ⟨kk + 1, by omega, by omega, by go_num, ⟨HST.out.trans HYE.out⟩, HO3⟩
            · have hltz : ¬ (kk : Int) < (l.length : Int) := by omega
              have : kk = l.length := by omega
              subst this
              have HZ0 : Aside0 (z = 0) := ⟨HZ2.out.trans (if_neg (by have := HNO.out; rw [List.take_length] at this; rw [this]; simp))⟩
              go_wp2
              go_ret
              exact ⟨by rw [HZ0.out]; rfl, HO.out.base⟩
def armadaref15_wrong.f (l : List Tg) (a : ByteArray) (b c d : Int) (e f g : ByteArray) : Option Int := if g.size ≤ 1000000 then some (wrongT l ⟨a, ⟨b, c, d, e, f⟩, g⟩) else none
theorem armadaref15_wrong.calls (A0 : Option Addr) (c0 : Nat) (l0 : List Tg) (a1_0 : ByteArray) (a1_1 : Int) (a1_2 : Int) (a1_3 : Int) (a1_4 : ByteArray) (a1_5 : ByteArray) (a1_6 : ByteArray) (r : Int) (w : World) (hr0 : Kd.C k32 w A0 l0.length l0) (hc0 : l0.length ≤ c0) (h : armadaref15_wrong.f l0 a1_0 a1_1 a1_2 a1_3 a1_4 a1_5 a1_6 = some r) :
    Calls Tryz.prog 23 #[.slice A0 l0.length c0, .agg #[.string a1_0, .int .i64 a1_1, .int .i64 a1_2, .int .i64 a1_3, .string a1_4, .string a1_5, .string a1_6]] w fun e w' => e = .returned (.int .i64 r) ∧ Below w.heap.size w w' := by
  unfold armadaref15_wrong.f at h
  split at h
  · rename_i hs
    rw [← Option.some.inj h]
    exact rwrong_calls A0 c0 l0 ⟨a1_0, ⟨a1_1, a1_2, a1_3, a1_4, a1_5⟩, a1_6⟩ w hr0 hs
  · cases h
end Go.Proofs.YtjdhdjmdmnedfaaGreatDoor
end

section
namespace Go.Proofs.YtjdhdjmdmnedfaaGreatDoor.RA
open Go.RowKit Go.Proofs.YtjdhdjmdmnedfaaGreatDoor Go.Proofs.YtjdhdjmdmnedfaaGreatDoor.K0 Go.Proofs.YtjdhdjmdmnedfaaGreatDoor.RD Go.Proofs.YtjdhdjmdmnedfaaGreatDoorW.PrintWords Go.Proofs.YtjdhdjmdmnedfaaGreatDoorW.PrintLast Go.Proofs.YtjdhdjmdmnedfaaGreatDoorW.PrintMore
attribute [local go_sem] max2_int min2_int max_two min_two max_three min_three max_four min_four
set_option linter.unusedVariables false
set_option linter.unusedSimpArgs false
end Go.Proofs.YtjdhdjmdmnedfaaGreatDoor.RA
end

section
namespace Go.Proofs.YtjdhdjmdmnedfaaGreatDoor.RA
open Go.RowKit Go.Proofs.YtjdhdjmdmnedfaaGreatDoor Go.Proofs.YtjdhdjmdmnedfaaGreatDoor.K0 Go.Proofs.YtjdhdjmdmnedfaaGreatDoor.RD Go.Proofs.YtjdhdjmdmnedfaaGreatDoorW.PrintWords Go.Proofs.YtjdhdjmdmnedfaaGreatDoorW.PrintLast Go.Proofs.YtjdhdjmdmnedfaaGreatDoorW.PrintMore
attribute [local go_sem] max2_int min2_int max_two min_two max_three min_three max_four min_four
set_option linter.unusedVariables false
set_option linter.unusedSimpArgs false
def armadaref15_Add.f (l0 : List (S32)) (a1_0 : ByteArray) (a1_1 : Int) (a1_2 : Int) (a1_3 : Int) (a1_4 : ByteArray) (a1_5 : ByteArray) (a1_6 : ByteArray) : Option ((List (S32)) × Int) := (armadaref15_wrong.f l0 a1_0 a1_1 a1_2 a1_3 a1_4 a1_5 a1_6).bind fun t102 => (if t102 = 0 then ((some (([] : List (S32)) : List (S32))).bind fun y103 => (if y103.length + l0.length < 1599289640401 then ((some (y103 ++ l0 : List (S32))).bind fun y106 => (if y106.length < 1599289640401 then (some ((y106 ++ [(⟨a1_0, (⟨a1_1, a1_2, a1_3, a1_4, a1_5⟩ : S30), a1_6⟩ : S32)]), 0)) else (none))) else (none))) else (some (([] : List (S32)), t102)))
set_option maxHeartbeats 8000000 in
set_option maxRecDepth 100000 in
theorem armadaref15_Add.calls (A0 : Option Addr) (c0 : Nat) (l0 : List (S32)) (a1_0 : ByteArray) (a1_1 : Int) (a1_2 : Int) (a1_3 : Int) (a1_4 : ByteArray) (a1_5 : ByteArray) (a1_6 : ByteArray) (r1 : List (S32)) (r2 : Int) (w : World) (hr0 : Kd.C k32 w A0 l0.length l0) (hc0 : l0.length ≤ c0) (h : armadaref15_Add.f l0 a1_0 a1_1 a1_2 a1_3 a1_4 a1_5 a1_6 = some (r1, r2)) :
  Calls Tryz.prog 13 #[.slice A0 l0.length c0, .agg #[.string a1_0, .int .i64 a1_1, .int .i64 a1_2, .int .i64 a1_3, .string a1_4, .string a1_5, .string a1_6]] w fun e w' => ∃ v0_ : Value, e = .returned (.tuple #[v0_, .int .i64 r2]) ∧ Kd.R k32 32 w' w.heap.size (fun _ => True) v0_ r1 ∧ Below w.heap.size w w' := by
 have hu32 := Tryz.underlying32; have HR0 := Aside0.mk hr0; have HC0 := Aside0.mk hc0; clear hr0 hc0; have HB := Aside0.mk (Below.refl w.heap.size w); have H : ((armadaref15_wrong.f l0 a1_0 a1_1 a1_2 a1_3 a1_4 a1_5 a1_6).bind fun t102 => (if t102 = 0 then ((some (([] : List (S32)) : List (S32))).bind fun y103 => (if y103.length + l0.length < 1599289640401 then ((some (y103 ++ l0 : List (S32))).bind fun y106 => (if y106.length < 1599289640401 then (some ((y106 ++ [(⟨a1_0, (⟨a1_1, a1_2, a1_3, a1_4, a1_5⟩ : S30), a1_6⟩ : S32)]), 0)) else (none))) else (none))) else (some (([] : List (S32)), t102)))) = some (r1, r2) := h; clear h; replace H := xb H; obtain ⟨t102, A3, H⟩ := H; replace H := xJ H; rcases H with ⟨c4, H⟩ | ⟨c4, H⟩
 ·
  have c4b0 := beq_iff_eq.mpr c4; have c4b1 := bne_eq_false_iff_eq.mpr c4; clear c4; obtain ⟨y103, hy103⟩ : ∃ y_ : List (S32), y_ = (([] : List (S32))) := ⟨_, rfl⟩
  replace H : (if y103.length + l0.length < 1599289640401 then ((some (y103 ++ l0 : List (S32))).bind fun y106 => (if y106.length < 1599289640401 then (some ((y106 ++ [(⟨a1_0, (⟨a1_1, a1_2, a1_3, a1_4, a1_5⟩ : S30), a1_6⟩ : S32)]), 0)) else (none))) else (none)) = some (r1, r2) := by first | (rw [hy103]; with_reducible exact H) | (have H2_ := (Option.bind_some _ _).symm.trans H; rw [hy103]; with_reducible exact H2_) | (have H2_ := (Option.bind_some _ _).symm.trans H; with_reducible exact H2_) | with_reducible exact H | (rw [hy103]; exact H) | exact H
  have Ny103 := Aside0.mk hy103; clear hy103; replace H := xI H; obtain ⟨c5, H⟩ := H; have LMc5 := Aside0.mk c5; clear c5; obtain ⟨y106, hy106⟩ : ∃ y_ : List (S32), y_ = (y103 ++ l0) := ⟨_, rfl⟩
  replace H : (if y106.length < 1599289640401 then (some ((y106 ++ [(⟨a1_0, (⟨a1_1, a1_2, a1_3, a1_4, a1_5⟩ : S30), a1_6⟩ : S32)]), 0)) else (none)) = some (r1, r2) := by first | (rw [hy106]; with_reducible exact H) | (have H2_ := (Option.bind_some _ _).symm.trans H; rw [hy106]; with_reducible exact H2_) | (have H2_ := (Option.bind_some _ _).symm.trans H; with_reducible exact H2_) | with_reducible exact H | (rw [hy106]; exact H) | exact H
  have Ny106 := Aside0.mk hy106; clear hy106; replace H := xI H; obtain ⟨c6, H⟩ := H; have LMc6 := Aside0.mk c6; clear c6; obtain ⟨y109, hy109⟩ : ∃ y_ : List (S32), y_ = (y106 ++ [(⟨a1_0, (⟨a1_1, a1_2, a1_3, a1_4, a1_5⟩ : S30), a1_6⟩ : S32)]) := ⟨_, rfl⟩
  replace H : (some (y109, 0)) = some (r1, r2) := by first | (rw [hy109]; with_reducible exact H) | (have H2_ := (Option.bind_some _ _).symm.trans H; rw [hy109]; with_reducible exact H2_) | (have H2_ := (Option.bind_some _ _).symm.trans H; with_reducible exact H2_) | with_reducible exact H | (rw [hy109]; exact H) | exact H
  have Ny109 := Aside0.mk hy109; clear hy109; simp only [Option.some.injEq, Prod.mk.injEq] at H; obtain ⟨rfl, rfl⟩ := H; go_enter Tryz.func13, Tryz.ntmps13; go_wp2_with (first | ((with_reducible refine gate_dst (N := 3) rfl ?_); refine box_event ?hg (N := 3) ?hd (cs := #[.string a1_0, .int .i64 a1_1, .int .i64 a1_2, .int .i64 a1_3, .string a1_4, .string a1_5, .string a1_6]) (t := 32) ?hr ?_; (case hd => rfl); (case hg => rfl); (case hr => first | (go_simp; done) | (go_simp; rfl)); intro gb101 hg w7 hbox hb; have BK101 := Aside0.mk (hbox); have GW101 := Aside0.mk ((by rw [hg]; exact (below_size xB) : w.heap.size ≤ gb101)); have GE101 := Aside0.mk ((by rw [hg]; exact (below_size xB) : w.heap.size ≤ gb101)); replace HB := Aside0.mk (below_step xB hb); clear hb hbox hg; obtain ⟨hcz8_0, hcz8_1, hcz8_2, hcz8_3, hcz8_4, hcz8_5, hcz8_6⟩ := xC7 BK101.out; obtain ⟨hfz8_0, hfz8_1, hfz8_2, hfz8_3, hfz8_4, hfz8_5, hfz8_6⟩ := xF7 BK101.out) | ((with_reducible refine gate_callee (f := 23) rfl ?_); refine goesL_ (some 10) rfl rfl Tryz.func23 (by kernel_rfl) rfl #[.slice A0 l0.length c0, .agg #[.string a1_0, .int .i64 a1_1, .int .i64 a1_2, .int .i64 a1_3, .string a1_4, .string a1_5, .string a1_6]] rfl xS ?_; (with_reducible refine (armadaref15_wrong.calls _ _ l0 a1_0 a1_1 a1_2 a1_3 a1_4 a1_5 a1_6 t102 _ ?side1 ?side2 A3.out).mono ?_); (case side1 => repeat (first | exact (Kd.C_below HR0.out HB.out) | (with_reducible refine Kd.C_alloc ?_ _) | (with_reducible refine Kd.C_drewN ?_ _) | (with_reducible refine Kd.C_drew ?_))); (case side2 => exact HC0.out); rintro e w9 ⟨rfl, hb⟩; refine ⟨_, rfl, ?_⟩; replace BK101 := Aside0.mk (blk_below (g := gb101) (o := .cells #[.string a1_0, .int .i64 a1_1, .int .i64 a1_2, .int .i64 a1_3, .string a1_4, .string a1_5, .string a1_6] 32 (0, 0)) xK hb); replace HB := Aside0.mk (below_step xB hb); (try clear hb); (try clear hk)) | ((with_reducible refine gate_dst (N := 14) rfl ?_); refine Kd.R_lit k32 _ 32 ?hg (N := 14) ?hd (xs := ([] : List (S32))) (inner := []) (ok := fun _ => True) (okp := fun _ => True) ?hr ?hp (fun _ hk => hk) trivial (Below.refl _ _) (Nat.le_refl _) (by simp) ?_; (case hd => rfl); (case hg => rfl); (case hr => first | (go_simp; done) | (go_simp; rfl)); (case hp => exact (Reps.none _ _)); intro v104 w10 ho11 hb hg_ hnew_; clear hg_ hnew_; (first | rw [← Ny103.out] at ho11 | (simp only [Int.reduceToNat] at ho11; rw [← Ny103.out] at ho11)); have HO105 := Aside0.mk (Kd.R_lower (Kd.R_newB ho11 (g := gb101) (o := .cells #[.string a1_0, .int .i64 a1_1, .int .i64 a1_2, .int .i64 a1_3, .string a1_4, .string a1_5, .string a1_6] 32 (0, 0)) xK) (below_size xB)); replace BK101 := Aside0.mk (blk_below (g := gb101) (o := .cells #[.string a1_0, .int .i64 a1_1, .int .i64 a1_2, .int .i64 a1_3, .string a1_4, .string a1_5, .string a1_6] 32 (0, 0)) xK hb); replace HB := Aside0.mk (below_step xB hb); clear hb ho11) | ((with_reducible refine gate_builtin (b := .append) (xs := #[.tmp 14, .tmp 15]) rfl ?_); at_builtin; refine Kd.R_append_rows k32 (w0 := w) w.heap.size rfl (.tmp 14) (.tmp 15) 23 32 (.agg #[(.string ⟨#[]⟩), (.int .i64 0), (.int .i64 0), (.int .i64 0), (.string ⟨#[]⟩), (.string ⟨#[]⟩), (.string ⟨#[]⟩)]) 88 rfl Tryz.underlying23 info32 rfl (by decide) (by omega) v104 y103 l0 _ _ _ (fun k_ => k_ ≠ gb101) (fun _ => False) rfl rfl ?aO ?aR (fun _ _ h => h) (fun _ h => h.elim) ?aF ?aB ?aS ?aL ?_; (case aR => repeat (first | exact (Kd.C_below HR0.out HB.out) | (with_reducible refine Kd.C_alloc ?_ _) | (with_reducible refine Kd.C_drewN ?_ _) | (with_reducible refine Kd.C_drew ?_))); (case aB => exact xB); (case aF => exact (fun k_ hk => Kd.freshB (g := gb101) (o := .cells #[.string a1_0, .int .i64 a1_1, .int .i64 a1_2, .int .i64 a1_3, .string a1_4, .string a1_5, .string a1_6] 32 (0, 0)) xK k_ hk)); (case aO => exact (by (with_reducible repeat (first | apply Kd.R_alloc | apply Kd.R_drewN | apply Kd.R_drew)); exact Kd.R_mono HO105.out (fun _ hk => hk.2))); (case aS => exact (below_size xB)); (case aL => have := LMc5.out; omega); intro v107 w12 ho hb hg hat; rw [← Ny106.out] at ho; replace BK101 := Aside0.mk (blk_grown (g := gb101) (o := .cells #[.string a1_0, .int .i64 a1_1, .int .i64 a1_2, .int .i64 a1_3, .string a1_4, .string a1_5, .string a1_6] 32 (0, 0)) xK hg (Kd.R_away HO105.out (fun _ hk => hk.2))); have HO108 := Aside0.mk (ho); replace HB := Aside0.mk (hb); clear HO105; clear ho hb hg hat; obtain ⟨hcz13_0, hcz13_1, hcz13_2, hcz13_3, hcz13_4, hcz13_5, hcz13_6⟩ := xC7 BK101.out; obtain ⟨hfz13_0, hfz13_1, hfz13_2, hfz13_3, hfz13_4, hfz13_5, hfz13_6⟩ := xF7 BK101.out) | ((with_reducible refine gate_builtin (b := .append) (xs := #[.tmp 17, .tmp 19]) rfl ?_); at_builtin; refine Kd.R_append k32 (w0 := w) w.heap.size rfl (.tmp 17) (.tmp 19) 23 32 (.agg #[(.string ⟨#[]⟩), (.int .i64 0), (.int .i64 0), (.int .i64 0), (.string ⟨#[]⟩), (.string ⟨#[]⟩), (.string ⟨#[]⟩)]) 88 rfl Tryz.underlying23 info32 rfl (by decide) (by omega) v107 y106 (⟨a1_0, (⟨a1_1, a1_2, a1_3, a1_4, a1_5⟩ : S30), a1_6⟩ : S32) [.string a1_0, .int .i64 a1_1, .int .i64 a1_2, .int .i64 a1_3, .string a1_4, .string a1_5, .string a1_6] (fun k_ => k_ ≠ gb101) (fun _ => False) rfl rfl ?aP (fun _ hk => hk.elim) ?aF ?aO ?aB ?aS ?aL ?_; (case aP => exact k32_mkM _ _ _ (⟨a1_0, (⟨a1_1, a1_2, a1_3, a1_4, a1_5⟩ : S30), a1_6⟩ : S32)); (case aB => exact xB); (case aF => exact (fun k_ hk => Kd.freshB (g := gb101) (o := .cells #[.string a1_0, .int .i64 a1_1, .int .i64 a1_2, .int .i64 a1_3, .string a1_4, .string a1_5, .string a1_6] 32 (0, 0)) xK k_ hk)); (case aO => exact (by (with_reducible repeat (first | apply Kd.R_alloc | apply Kd.R_drewN | apply Kd.R_drew)); exact HO108.out)); (case aS => exact (below_size xB)); (case aL => have := LMc6.out; omega); intro v110 w14 ho hb hg hat; rw [← Ny109.out] at ho; replace BK101 := Aside0.mk (blk_grown (g := gb101) (o := .cells #[.string a1_0, .int .i64 a1_1, .int .i64 a1_2, .int .i64 a1_3, .string a1_4, .string a1_5, .string a1_6] 32 (0, 0)) xK hg (Kd.R_away HO108.out (fun _ hk => hk))); have HO111 := Aside0.mk (ho); replace HB := Aside0.mk (hb); clear HO108; clear ho hb hg hat))
  go_ret2; exact ⟨_, xW, by (with_reducible repeat (first | apply Kd.R_alloc | apply Kd.R_drewN | apply Kd.R_drew)); exact Kd.R_mono HO111.out (fun _ hk => trivial), xB⟩
 have c4b0 := beq_eq_false_iff_ne.mpr c4; have c4b1 := bne_iff_ne.mpr c4; simp only [Option.some.injEq, Prod.mk.injEq] at H; obtain ⟨rfl, rfl⟩ := H; go_enter Tryz.func13, Tryz.ntmps13; go_wp2_with (first | ((with_reducible refine gate_dst (N := 3) rfl ?_); refine box_event ?hg (N := 3) ?hd (cs := #[.string a1_0, .int .i64 a1_1, .int .i64 a1_2, .int .i64 a1_3, .string a1_4, .string a1_5, .string a1_6]) (t := 32) ?hr ?_; (case hd => rfl); (case hg => rfl); (case hr => first | (go_simp; done) | (go_simp; rfl)); intro gb101 hg w15 hbox hb; have BK101 := Aside0.mk (hbox); have GW101 := Aside0.mk ((by rw [hg]; exact (below_size xB) : w.heap.size ≤ gb101)); have GE101 := Aside0.mk ((by rw [hg]; exact (below_size xB) : w.heap.size ≤ gb101)); replace HB := Aside0.mk (below_step xB hb); clear hb hbox hg; obtain ⟨hcz16_0, hcz16_1, hcz16_2, hcz16_3, hcz16_4, hcz16_5, hcz16_6⟩ := xC7 BK101.out; obtain ⟨hfz16_0, hfz16_1, hfz16_2, hfz16_3, hfz16_4, hfz16_5, hfz16_6⟩ := xF7 BK101.out) | ((with_reducible refine gate_callee (f := 23) rfl ?_); refine goesL_ (some 10) rfl rfl Tryz.func23 (by kernel_rfl) rfl #[.slice A0 l0.length c0, .agg #[.string a1_0, .int .i64 a1_1, .int .i64 a1_2, .int .i64 a1_3, .string a1_4, .string a1_5, .string a1_6]] rfl xS ?_; (with_reducible refine (armadaref15_wrong.calls _ _ l0 a1_0 a1_1 a1_2 a1_3 a1_4 a1_5 a1_6 t102 _ ?side1 ?side2 A3.out).mono ?_); (case side1 => repeat (first | exact (Kd.C_below HR0.out HB.out) | (with_reducible refine Kd.C_alloc ?_ _) | (with_reducible refine Kd.C_drewN ?_ _) | (with_reducible refine Kd.C_drew ?_))); (case side2 => exact HC0.out); rintro e w17 ⟨rfl, hb⟩; refine ⟨_, rfl, ?_⟩; replace BK101 := Aside0.mk (blk_below (g := gb101) (o := .cells #[.string a1_0, .int .i64 a1_1, .int .i64 a1_2, .int .i64 a1_3, .string a1_4, .string a1_5, .string a1_6] 32 (0, 0)) xK hb); replace HB := Aside0.mk (below_step xB hb); (try clear hb))); go_ret2; exact ⟨_, xW, by first | exact Kd.R_nil _ _ _ _ _ | exact Kd.N_nil _ _ _ _ _ | exact Kd.V_nil _ _ _ _ _ | exact Kd.Q_nil _ _ _ _ _ | exact Kd.S_nil _ _ _ _ _, xB⟩
end Go.Proofs.YtjdhdjmdmnedfaaGreatDoor.RA
end

section
namespace Go.Proofs.YtjdhdjmdmnedfaaGreatDoor.RA
open Go.RowKit Go.Proofs.YtjdhdjmdmnedfaaGreatDoor Go.Proofs.YtjdhdjmdmnedfaaGreatDoor.K0 Go.Proofs.YtjdhdjmdmnedfaaGreatDoor.RD Go.Proofs.YtjdhdjmdmnedfaaGreatDoorW.PrintWords Go.Proofs.YtjdhdjmdmnedfaaGreatDoorW.PrintLast Go.Proofs.YtjdhdjmdmnedfaaGreatDoorW.PrintMore
attribute [local go_sem] max2_int min2_int max_two min_two max_three min_three max_four min_four
set_option linter.unusedVariables false
set_option linter.unusedSimpArgs false
end Go.Proofs.YtjdhdjmdmnedfaaGreatDoor.RA
end

section
namespace Go.Proofs.YtjdhdjmdmnedfaaGreatDoor.RE
open Go.RowKit Go.Proofs.YtjdhdjmdmnedfaaGreatDoor Go.Proofs.YtjdhdjmdmnedfaaGreatDoor.K0 Go.Proofs.YtjdhdjmdmnedfaaGreatDoor.RD Go.Proofs.YtjdhdjmdmnedfaaGreatDoorW.PrintWords Go.Proofs.YtjdhdjmdmnedfaaGreatDoorW.PrintLast Go.Proofs.YtjdhdjmdmnedfaaGreatDoorW.PrintMore
attribute [local go_sem] max2_int min2_int max_two min_two max_three min_three max_four min_four
set_option linter.unusedVariables false
set_option linter.unusedSimpArgs false
end Go.Proofs.YtjdhdjmdmnedfaaGreatDoor.RE
end
