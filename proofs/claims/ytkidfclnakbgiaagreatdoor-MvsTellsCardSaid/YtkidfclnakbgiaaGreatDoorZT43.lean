/- The texts TlOf, RTx0, RTx1 in one file, without what these claims do not use (put together by prune2.py). -/
import Derived.Test.YtkidfclnakbgiaaGreatDoorZT42
import Derived.Test.YtkidfclnakbgiaaGreatDoorZT8
import Derived.Test.YtkidfclnakbgiaaGreatDoorZT9
import Derived.Test.YtkidfclnakbgiaaGreatDoorZT35
import Derived.Test.YtkidfclnakbgiaaGreatDoorZT38
import Derived.Test.YtkidfclnakbgiaaGreatDoorZT7
section
namespace Go.Proofs.YtkidfclnakbgiaaGreatDoor
open Go Go.RowKit Go.Sort Go.Maps Go.Proofs Go.Proofs.YtkidfclnakbgiaaGreatDoorW.PrintWords Go.Proofs.YtkidfclnakbgiaaGreatDoorW.PrintLast Go.Proofs.YtkidfclnakbgiaaGreatDoor.K0 Go.Proofs.YtkidfclnakbgiaaGreatDoor.RD
set_option linter.unusedVariables false
set_option linter.unusedSimpArgs false
abbrev z27' : Rq := ⟨⟨#[]⟩, ⟨0, 0, 0, ⟨#[]⟩, ⟨#[]⟩⟩⟩
def ofV (o : Option Rq) : ByteArray × Int × Int × Int × ByteArray × ByteArray × Bool := ((o.getD z27').f0, (o.getD z27').f1.f0, (o.getD z27').f1.f1, (o.getD z27').f1.f2, (o.getD z27').f1.f3, (o.getD z27').f1.f4, o.isSome)
theorem refcmp_calls (x y : Rq) (w : World) : Calls Tryz.prog 26 #[.agg #[.int .i64 x.f1.f0, .int .i64 x.f1.f1, .int .i64 x.f1.f2, .string x.f1.f3, .string x.f1.f4], .agg #[.int .i64 y.f1.f0, .int .i64 y.f1.f1, .int .i64 y.f1.f2, .string y.f1.f3, .string y.f1.f4]] w fun e w' => e = .returned (.int .i64 (mv.cmp x y)) ∧ Below w.heap.size w w' := by
  obtain ⟨k, hk⟩ := (cmp_f x y).rounds
  exact armadaref07_Compare.calls k _ _ _ _ _ _ _ _ _ _ _ w hk
def rof.T6 : Bool × List (List Nat × List Nat) := (true, [([], []), ([], []), ([0, 1], [0, 1]), ([2], [2]), ([3], [3]), ([], []), ([4, 5], [4, 5]), ([6], [6]), ([7], [7]), ([8, 7], [7, 8]), ([9, 7, 7], [7, 9]), ([10], [10]), ([10], [10]), ([11, 12, 10], [10, 11, 12]), ([13, 10], [10, 13]), ([14, 10], [10, 14]), ([10], [10]), ([16, 10], [10, 16]), ([15, 17, 10, 10], [10, 15, 17]), ([18, 10], [10, 18]), ([10, 19, 7], [7, 10, 19]), ([7, 20], [7, 20])])
def rof.B6 : List Nat := [0, 0, 3, 7, 15, 0, 63, 127, 255, 511, 1023, 2047, 2047, 8191, 16383, 32767, 2047, 67583, 262143, 524287, 1048575, 2097151]
theorem rof.tab6 : rtab .any (opsOf Tryz.f39 6) = rof.T6 := by kernel_rfl
theorem rof.bits6 : waitsOk rof.T6.2 rof.B6 = true := by kernel_rfl
/-- The variables of the document's of. -/
structure OfIs (w : World) (b : Rq) (W : World) : Prop where
  base : Below w.heap.size w W
  z : RqAt W w.heap.size z27'
  b : RqAt W (w.heap.size + 1) b
theorem OfIs.step {w W W' : World} {b : Rq} (h : OfIs w b W) (hb : Below W.heap.size W W') : OfIs w b W' := ⟨below_step h.base hb, blk_below h.z hb, blk_below h.b hb⟩
theorem OfIs.put {w W W' : World} {b y : Rq} (h : OfIs w b W) (hr : RqAt W' (w.heap.size + 1) y) (hg : W.grownBy W' (some (w.heap.size + 1))) : OfIs w y W' :=
  ⟨h.base.grown hg h.base.size (fun k hk => by cases hk; omega), blk_grown h.z hg (by simp), hr⟩
theorem of_start (w : World) : OfIs w z27' ((w.alloc (.cells (rqc z27') 27)).alloc (.cells (rqc z27') 27)) := by
  have h1 := heap_alloc_new (w.alloc (.cells (rqc z27') 27)) (.cells (rqc z27') 27)
  rw [show (w.alloc (.cells (rqc z27') 27)).heap.size = w.heap.size + 1 by simp] at h1
  exact ⟨below_alloc (below_alloc (Below.refl _ _) _) _, blk_alloc (heap_alloc_new w _) _, h1⟩
set_option maxRecDepth 100000 in
set_option maxHeartbeats 4000000 in
theorem refof_calls (A : Option Addr) (c : Nat) (l : List Rq) (p : ByteArray) (w : World) (hr : Kd.C k27 w A l.length l) (hc : l.length ≤ c) (hl : l.length ≤ 1000000) :
    Calls Tryz.prog 39 #[.slice A l.length c, .string p] w fun e w' => e = .returned (.tuple #[.agg (rqc ((mv.best l p.data.toList).getD z27')), .bool (mv.best l p.data.toList).isSome]) ∧ Below w.heap.size w w' := by
  have HR := Aside0.mk hr
  have HS := Aside0.mk (of_start w)
  have HEND : Aside0 (mv.best (l.take l.length) p.data.toList = mv.best l p.data.toList) := ⟨by rw [List.take_length]⟩
  clear hr
  go_enter Tryz.func39, Tryz.ntmps39
  go_wp2
  go_loopg [7, 8] l.length (fun gg v7 s8 wr => ∃ (kk : Nat) (ob : Option Rq), kk ≤ l.length ∧ l.length - kk ≤ gg ∧ s8 = .int .i64 kk ∧ v7 = .bool ob.isSome ∧ Aside0 (mv.best (l.take kk) p.data.toList = ob) ∧ Aside0 (OfIs w (ob.getD z27') wr))
  case atStart => exact ⟨0, none, Nat.zero_le _, by omega, rfl, rfl, ⟨rfl⟩, HS⟩
  case round =>
    clear HS
    obtain ⟨kk, ob, hkk, hg, rfl, rfl, HBK, HO⟩ := hrel
    by_cases hlt : kk < l.length
    · have hltz : (kk : Int) < (l.length : Int) := by omega
      obtain ⟨x, hx⟩ : ∃ x, l[kk]? = some x := ⟨_, List.getElem?_eq_getElem hlt⟩
      have hxe : rd_T27 l (kk : Int) = x := by
        unfold rd_T27
        rw [Int.toNat_natCast, List.getD_eq_getElem?_getD, hx]; rfl
      have hST : mv.best (l.take (kk + 1)) p.data.toList = mv.takeP p.data.toList ob x := by
        rw [List.take_add_one, hx, ← HBK.out]
        exact mv.best_snoc _ _ _
      obtain ⟨ad, hA, _⟩ := at_T27 HR.out (kk : Int) (by omega) (by omega)
      subst hA
      have HGX : Aside0 (∀ W, Below w.heap.size w W → W.cell? (ad.add (kk * 6)) = some (.string x.f0) ∧ W.cell? ⟨(ad.add (kk * 6)).block, (ad.add (kk * 6)).off + 1, none⟩ = some (.int .i64 x.f1.f0) ∧ W.cell? ⟨(ad.add (kk * 6)).block, (ad.add (kk * 6)).off + 2, none⟩ = some (.int .i64 x.f1.f1) ∧ W.cell? ⟨(ad.add (kk * 6)).block, (ad.add (kk * 6)).off + 3, none⟩ = some (.int .i64 x.f1.f2) ∧ W.cell? ⟨(ad.add (kk * 6)).block, (ad.add (kk * 6)).off + 4, none⟩ = some (.string x.f1.f3) ∧ W.cell? ⟨(ad.add (kk * 6)).block, (ad.add (kk * 6)).off + 5, none⟩ = some (.string x.f1.f4)) := ⟨fun W hb => by
        obtain ⟨ad2, hA2, h0, h1, h2, h3, h4, h5⟩ := at_T27 (Kd.C_below HR.out hb) (kk : Int) (by omega) (by omega)
        obtain rfl := Option.some.inj hA2
        rw [hxe] at h0 h1 h2 h3 h4 h5
        rw [Int.toNat_natCast] at h0 h1 h2 h3 h4 h5
        exact ⟨h0, h1, h2, h3, h4, h5⟩⟩
      obtain ⟨g0, g1, g2, g3, g4, g5⟩ := HGX.out wr HO.out.base
      have HST := Aside0.mk hST
      clear hST hx hxe HBK
      obtain ⟨bb, hbb⟩ : ∃ bb, bb = ob.getD z27' := ⟨_, rfl⟩
      have HBB := Aside0.mk hbb
      rw [← hbb] at HO
      clear hbb
      go_wp2
      refine sX (ds := []) (S := fun w' => RqC w' (w.heap.size + 1) bb ∧ w'.cell? (ad.add (kk * 6)) = some (.string x.f0) ∧ w'.cell? ⟨(ad.add (kk * 6)).block, (ad.add (kk * 6)).off + 1, none⟩ = some (.int .i64 x.f1.f0) ∧ w'.cell? ⟨(ad.add (kk * 6)).block, (ad.add (kk * 6)).off + 2, none⟩ = some (.int .i64 x.f1.f1) ∧ w'.cell? ⟨(ad.add (kk * 6)).block, (ad.add (kk * 6)).off + 3, none⟩ = some (.int .i64 x.f1.f2) ∧ w'.cell? ⟨(ad.add (kk * 6)).block, (ad.add (kk * 6)).off + 4, none⟩ = some (.string x.f1.f3) ∧ w'.cell? ⟨(ad.add (kk * 6)).block, (ad.add (kk * 6)).off + 5, none⟩ = some (.string x.f1.f4)) rof.tab6 rof.bits6 ⟨RqAt.cells (blk_drew HO.out.b), g0, g1, g2, g3, g4, g5⟩ (fun HT_ HW_ hHeld => ?_)
      have HO2 := Aside0.mk (HO.out.step (below_drew1 (Below.refl _ _)))
      have hG2 := HGX.out wr.drew (HO2.out.base)
      generalize wr.drew = w2 at HO2 hHeld hG2 ⊢
      clear g0 g1 g2 g3 g4 g5 HO
      refine pX HT_ 0 1 15 ?_
      refine pX HT_ 1 3 16 ?_
      refine pX HT_ 2 7 17 ?_
      refine pX HT_ 3 15 18 ?_
      refine pX HT_ 5 47 20 ?_
      refine tX HT_ HW_ hHeld 4 63 19 ?_
      cases hp : (x.f0.toList == p.toList) with
      | false =>
        have hne : ¬ mv.path x = p.data.toList := fun e => by
          have : x.f0.toList = p.toList := by rw [ByteArray.toList_eq, ByteArray.toList_eq]; exact e
          rw [this] at hp; simp at hp
        have HNO : Aside0 (mv.best (l.take (kk + 1)) p.data.toList = ob) := ⟨by rw [HST.out]; unfold Mv.takeP; rw [if_neg hne]⟩
        rw [HBB.out] at HO2
        clear hne
        refine pX HT_ 6 127 21 ?_
        refine pX HT_ 7 255 22 ?_
        refine fX HT_ 8 511 23 ?_
        refine fX HT_ 9 1023 24 ?_
        refine fX HT_ 10 2047 25 ?_
        refine fX HT_ 11 4095 26 ?_
        refine fX HT_ 12 8191 27 ?_
        refine fX HT_ 13 16383 28 ?_
        refine fX HT_ 14 32767 29 ?_
        refine fX HT_ 15 65535 30 ?_
        refine fX HT_ 16 131071 31 ?_
        refine fX HT_ 17 262143 32 ?_
        refine fX HT_ 18 524287 33 ?_
        refine fX HT_ 19 1048575 34 ?_
        refine fX HT_ 20 2097151 35 ?_
        refine pX HT_ 21 4194303 36 ?_
        refine eX HT_ ?_
        clear HT_ HW_ hHeld
        go_wp2
        go_roundg (l.length - (kk + 1))
        case measure => omega
        case rel => exact ⟨kk + 1, ob, by omega, by omega, by go_num, rfl, ⟨HNO.out⟩, HO2⟩
      | true =>
        have hpath : mv.path x = p.data.toList := by
          have : x.f0.toList = p.toList := by simpa using hp
          rw [ByteArray.toList_eq, ByteArray.toList_eq] at this; exact this
        cases ob with
        | none =>
          have HYE : Aside0 (mv.best (l.take (kk + 1)) p.data.toList = some x) := ⟨by rw [HST.out]; unfold Mv.takeP; rw [if_pos hpath]⟩
          simp only [Option.isSome_none]
          clear hpath
          refine pX HT_ 6 127 21 ?_
          refine pX HT_ 7 255 22 ?_
          refine pX HT_ 8 511 23 ?_
          refine pX HT_ 9 1023 24 ?_
          refine pX HT_ 10 2047 25 ?_
          refine fX HT_ 11 4095 26 ?_
          refine fX HT_ 12 8191 27 ?_
          refine fX HT_ 13 16383 28 ?_
          refine fX HT_ 14 32767 29 ?_
          refine fX HT_ 15 65535 30 ?_
          refine fX HT_ 16 131071 31 ?_
          refine fX HT_ 17 262143 32 ?_
          refine fX HT_ 18 524287 33 ?_
          refine fX HT_ 19 1048575 34 ?_
          refine pX HT_ 20 2097151 35 ?_
          refine pX HT_ 21 4194303 36 ?_
          refine eX HT_ ?_
          clear HT_ HW_ hHeld
          obtain ⟨e0, e1, e2, e3, e4, e5⟩ := hG2
          go_wp2_with ((with_reducible refine gate_ (.store 27 (.tmp 6) (.tmp 40)) rfl ?_); refine wpList_store rfl rfl 27 (.tmp 6) (.tmp 40) rfl (rql x) HO2.out.b rfl rfl rfl (by kernel_rfl) rfl (fun q hq => by simp only [rql, List.mem_cons, List.not_mem_nil, or_false] at hq; rcases hq with rfl | rfl | rfl | rfl | rfl | rfl <;> rfl) ?_; intro w9 hr hg; have HO9 := Aside0.mk (HO2.out.put hr hg); clear hr hg)
          go_roundg (l.length - (kk + 1))
          case measure => omega
          case rel => exact ⟨kk + 1, some x, by omega, by omega, by go_num, rfl, ⟨HYE.out⟩, HO9⟩
        | some b =>
          obtain rfl : bb = b := HBB.out
          simp only [Option.isSome_some]
          have hcmp := fun W => refcmp_calls x bb W
          by_cases hz : mv.cmp x bb > 0
          · have HYE : Aside0 (mv.best (l.take (kk + 1)) p.data.toList = some x) := ⟨by rw [HST.out]; unfold Mv.takeP; rw [if_pos hpath]; simp only [if_pos hz]⟩
            have hzd : decide (mv.cmp x bb > 0) = true := decide_eq_true hz
            clear hpath hz
            generalize mv.cmp x bb = z at hcmp hzd
            refine pX HT_ 6 127 21 ?_
            refine pX HT_ 7 255 22 ?_
            refine pX HT_ 8 511 23 ?_
            refine pX HT_ 9 1023 24 ?_
            refine pX HT_ 10 2047 25 ?_
            refine pX HT_ 11 4095 26 ?_
            refine pX HT_ 12 8191 27 ?_
            refine pX HT_ 13 16383 28 ?_
            refine pX HT_ 14 32767 29 ?_
            refine pX HT_ 16 98303 31 ?_
            refine tX HT_ HW_ hHeld 15 131071 30 ?_
            refine tX HT_ HW_ hHeld 17 262143 32 ?_
            refine gX HT_ 18 524287 33 Tryz.func26 (hcmp w2) ?_
            rintro e w3 ⟨rfl, hb⟩
            have HO3 := Aside0.mk (HO2.out.step hb)
            have hG3 := HGX.out w3 HO3.out.base
            clear HO2 hHeld hb hG2 hcmp
            refine ⟨_, rfl, _, nX, ⟨HO3.out.b.cells, hG3⟩, fun hHeld => ?_⟩
            refine pX HT_ 19 1048575 34 ?_
            refine pX HT_ 20 2097151 35 ?_
            refine pX HT_ 21 4194303 36 ?_
            refine eX HT_ ?_
            clear HT_ HW_ hHeld
            obtain ⟨e0, e1, e2, e3, e4, e5⟩ := hG3
            go_wp2_with ((with_reducible refine gate_ (.store 27 (.tmp 6) (.tmp 40)) rfl ?_); refine wpList_store rfl rfl 27 (.tmp 6) (.tmp 40) rfl (rql x) HO3.out.b rfl rfl rfl (by kernel_rfl) rfl (fun q hq => by simp only [rql, List.mem_cons, List.not_mem_nil, or_false] at hq; rcases hq with rfl | rfl | rfl | rfl | rfl | rfl <;> rfl) ?_; intro w9 hr hg; have HO9 := Aside0.mk (HO3.out.put hr hg); clear hr hg)
            go_roundg (l.length - (kk + 1))
            case measure => omega
            case rel => exact ⟨kk + 1, some x, by omega, by omega, by go_num, rfl, ⟨HYE.out⟩, HO9⟩
          · have HYE : Aside0 (mv.best (l.take (kk + 1)) p.data.toList = some bb) := ⟨by rw [HST.out]; unfold Mv.takeP; rw [if_pos hpath]; simp only [if_neg hz]⟩
            have hzd : decide (mv.cmp x bb > 0) = false := decide_eq_false hz
            clear hpath hz
            generalize mv.cmp x bb = z at hcmp hzd
            refine pX HT_ 6 127 21 ?_
            refine pX HT_ 7 255 22 ?_
            refine pX HT_ 8 511 23 ?_
            refine pX HT_ 9 1023 24 ?_
            refine pX HT_ 10 2047 25 ?_
            refine pX HT_ 11 4095 26 ?_
            refine pX HT_ 12 8191 27 ?_
            refine pX HT_ 13 16383 28 ?_
            refine pX HT_ 14 32767 29 ?_
            refine pX HT_ 16 98303 31 ?_
            refine tX HT_ HW_ hHeld 15 131071 30 ?_
            refine tX HT_ HW_ hHeld 17 262143 32 ?_
            refine gX HT_ 18 524287 33 Tryz.func26 (hcmp w2) ?_
            rintro e w3 ⟨rfl, hb⟩
            have HO3 := Aside0.mk (HO2.out.step hb)
            have hG3 := HGX.out w3 HO3.out.base
            clear HO2 hHeld hb hG2 hcmp
            refine ⟨_, rfl, _, nX, ⟨HO3.out.b.cells, hG3⟩, fun hHeld => ?_⟩
            refine pX HT_ 19 1048575 34 ?_
            refine pX HT_ 20 2097151 35 ?_
            refine pX HT_ 21 4194303 36 ?_
            refine eX HT_ ?_
            clear HT_ HW_ hHeld
            go_wp2
            go_roundg (l.length - (kk + 1))
            case measure => omega
            case rel => exact ⟨kk + 1, some bb, by omega, by omega, by go_num, rfl, ⟨HYE.out⟩, HO3⟩
    · have hltz : ¬ (kk : Int) < (l.length : Int) := by omega
      have : kk = l.length := by omega
      subst this
      have hb2 : ob = mv.best l p.data.toList := HBK.out.symm.trans HEND.out
      obtain ⟨bd, hbd⟩ : ∃ bd, bd = ob.getD z27' := ⟨_, rfl⟩
      rw [← hbd] at HO
      have HBD := Aside0.mk (And.intro hb2 hbd)
      clear HBK HEND hb2 hbd
      obtain ⟨c0, c1, c2, c3, c4, c5⟩ := HO.out.b.cells
      go_wp2_with ((with_reducible refine gate_ (.store 27 (.tmp 4) (.tmp 41)) rfl ?_); refine wpList_store rfl rfl 27 (.tmp 4) (.tmp 41) rfl (rql bd) HO.out.z rfl rfl rfl (by kernel_rfl) rfl (fun q hq => by simp only [rql, List.mem_cons, List.not_mem_nil, or_false] at hq; rcases hq with rfl | rfl | rfl | rfl | rfl | rfl <;> rfl) ?_; intro w2 hr2 hg2; have HR2 := Aside0.mk (show w2.heap[w.heap.size]? = some (.cells (rqc bd) 27 (0, 0)) from hr2); have HB3 := Aside0.mk (HO.out.base.grown hg2 HO.out.base.size (fun k hk => by cases hk; omega)); clear hr2 hg2)
      (try simp only [Exit.inBlock, Exit.then])
      refine bodyPost_ret (results_ct rfl _ _ (w.heap.size) 27 (rqc bd) (0, 0) _ rfl HR2.out Tryz.underlying27 rfl (by kernel_rfl)) rfl ⟨by rw [← HBD.out.1, ← HBD.out.2]; rfl, HB3.out⟩
def armadaref17_of.f (l0 : List Rq) (a1 : ByteArray) : Option (ByteArray × Int × Int × Int × ByteArray × ByteArray × Bool) := if l0.length ≤ 1000000 then some (ofV (mv.best l0 a1.data.toList)) else none
theorem armadaref17_of.calls (A0 : Option Addr) (c0 : Nat) (l0 : List Rq) (a1 : ByteArray) (r1 : ByteArray) (r2 : Int) (r3 : Int) (r4 : Int) (r5 : ByteArray) (r6 : ByteArray) (r7 : Bool) (w : World) (hr0 : Kd.C k27 w A0 l0.length l0) (hc0 : l0.length ≤ c0) (h : armadaref17_of.f l0 a1 = some (r1, r2, r3, r4, r5, r6, r7)) :
    Calls Tryz.prog 39 #[.slice A0 l0.length c0, .string a1] w fun e w' => e = .returned (.tuple #[.agg #[.string r1, .int .i64 r2, .int .i64 r3, .int .i64 r4, .string r5, .string r6], .bool r7]) ∧ Below w.heap.size w w' := by
  unfold armadaref17_of.f at h
  split at h
  · rename_i hs
    have h2 := Option.some.inj h
    unfold ofV at h2
    obtain ⟨e1, k2⟩ := Prod.mk.inj h2
    obtain ⟨e2, k3⟩ := Prod.mk.inj k2
    obtain ⟨e3, k4⟩ := Prod.mk.inj k3
    obtain ⟨e4, k5⟩ := Prod.mk.inj k4
    obtain ⟨e5, k6⟩ := Prod.mk.inj k5
    obtain ⟨e6, e7⟩ := Prod.mk.inj k6
    rw [← e1, ← e2, ← e3, ← e4, ← e5, ← e6, ← e7]
    exact refof_calls A0 c0 l0 a1 w hr0 hc0 hs
  · cases h
end Go.Proofs.YtkidfclnakbgiaaGreatDoor
end

section
namespace Go.Proofs.YtkidfclnakbgiaaGreatDoor.RT
open Go.RowKit Go.Proofs.YtkidfclnakbgiaaGreatDoor Go.Proofs.YtkidfclnakbgiaaGreatDoor.K0 Go.Proofs.YtkidfclnakbgiaaGreatDoor.RD Go.Proofs.YtkidfclnakbgiaaGreatDoor.RS Go.Proofs.YtkidfclnakbgiaaGreatDoorW.PrintWords Go.Proofs.YtkidfclnakbgiaaGreatDoorW.PrintLast Go.Proofs.YtkidfclnakbgiaaGreatDoorW.PrintMore
attribute [local go_sem] max2_int min2_int max_two min_two max_three min_three max_four min_four
set_option linter.unusedVariables false
set_option linter.unusedSimpArgs false
end Go.Proofs.YtkidfclnakbgiaaGreatDoor.RT
end

section
namespace Go.Proofs.YtkidfclnakbgiaaGreatDoor.RT
open Go.RowKit Go.Proofs.YtkidfclnakbgiaaGreatDoor Go.Proofs.YtkidfclnakbgiaaGreatDoor.K0 Go.Proofs.YtkidfclnakbgiaaGreatDoor.RD Go.Proofs.YtkidfclnakbgiaaGreatDoor.RS Go.Proofs.YtkidfclnakbgiaaGreatDoorW.PrintWords Go.Proofs.YtkidfclnakbgiaaGreatDoorW.PrintLast Go.Proofs.YtkidfclnakbgiaaGreatDoorW.PrintMore
attribute [local go_sem] max2_int min2_int max_two min_two max_three min_three max_four min_four
set_option linter.unusedVariables false
set_option linter.unusedSimpArgs false
theorem eqA25 (d : Nat) (w : World) (x0 y0 : Int) (x1 y1 : Int) (x2 y2 : Int) (x3 y3 : ByteArray) (x4 y4 : ByteArray) :
  (Op.equalIn (d + 2) 25 (.agg #[.int .i64 x0, .int .i64 x1, .int .i64 x2, .string x3, .string x4]) (.agg #[.int .i64 y0, .int .i64 y1, .int .i64 y2, .string y3, .string y4])).run Tryz.prog w = .ok (x0 == y0 && (x1 == y1 && (x2 == y2 && (x3.toList == y3.toList && (x4.toList == y4.toList))))) w := by
 refine eqA_of Tryz.underlying25 (by kernel_rfl) ?_
 refine eqf_cons (by rfl) (by go_simp; rfl) (by go_simp; rfl) (by go_simp) ?_
 refine eqf_cons (by rfl) (by go_simp; rfl) (by go_simp; rfl) (by go_simp) ?_
 refine eqf_cons (by rfl) (by go_simp; rfl) (by go_simp; rfl) (by go_simp) ?_
 refine eqf_cons (by rfl) (by go_simp; rfl) (by go_simp; rfl) (by go_simp) ?_
 exact eqf_last (by rfl) (by go_simp; rfl) (by go_simp; rfl) (by go_simp)
theorem eqA27 (d : Nat) (w : World) (x0 y0 : ByteArray) (x1 y1 : Int) (x2 y2 : Int) (x3 y3 : Int) (x4 y4 : ByteArray) (x5 y5 : ByteArray) :
  (Op.equalIn (d + 3) 27 (.agg #[.string x0, .int .i64 x1, .int .i64 x2, .int .i64 x3, .string x4, .string x5]) (.agg #[.string y0, .int .i64 y1, .int .i64 y2, .int .i64 y3, .string y4, .string y5])).run Tryz.prog w = .ok (x0.toList == y0.toList && ((x1 == y1 && (x2 == y2 && (x3 == y3 && (x4.toList == y4.toList && (x5.toList == y5.toList))))))) w := by
 refine eqA_of Tryz.underlying27 (by kernel_rfl) ?_
 refine eqf_cons (by rfl) (by go_simp; rfl) (by go_simp; rfl) (by go_simp) ?_
 exact eqf_last (by rfl) (by go_simp) (by go_simp) (eqA25 (d + 0) w _ _ _ _ _ _ _ _ _ _)
end Go.Proofs.YtkidfclnakbgiaaGreatDoor.RT
end
