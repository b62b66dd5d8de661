/- The texts LRl in one file, without what these claims do not use (put together by prune2.py). -/
import Derived.Test.YtjdhdjmdmnedfaaGreatDoorZL32
import Derived.Test.YtjdhdjmdmnedfaaGreatDoorZL33
import Derived.Test.YtjdhdjmdmnedfaaGreatDoorZL34
section
namespace Go.Proofs.YtjdhdjmdmnedfaaGreatDoor
open Go Go.RowKit Go.Sort Go.Maps Go.Proofs Go.Proofs.YtjdhdjmdmnedfaaGreatDoorW.PrintWords Go.Proofs.YtjdhdjmdmnedfaaGreatDoorW.PrintLast Go.Proofs.YtjdhdjmdmnedfaaGreatDoor.K0 Go.Proofs.YtjdhdjmdmnedfaaGreatDoor.RD
set_option linter.unusedVariables false
set_option linter.unusedSimpArgs false
abbrev tgc (t : Tg) : Array Value := #[.string t.f0, .int .i64 t.f1.f0, .int .i64 t.f1.f1, .int .i64 t.f1.f2, .string t.f1.f3, .string t.f1.f4, .string t.f2]
abbrev tgl (t : Tg) : List Value := [.string t.f0, .int .i64 t.f1.f0, .int .i64 t.f1.f1, .int .i64 t.f1.f2, .string t.f1.f3, .string t.f1.f4, .string t.f2]
theorem tgl_one (x : Tg) : ∀ q ∈ tgl x, q.oneCell' = true := fun q hq => by
  simp only [tgl, List.mem_cons, List.not_mem_nil, or_false] at hq
  rcases hq with rfl | rfl | rfl | rfl | rfl | rfl | rfl <;> rfl
def TgAt (w : World) (B : Nat) (x : Tg) : Prop := w.heap[B]? = some (.cells (tgc x) 32 (0, 0))
abbrev TgC (w : World) (B : Nat) (x : Tg) : Prop := w.cell? ⟨B, 0, none⟩ = some (.string x.f0) ∧ w.cell? ⟨B, 1, none⟩ = some (.int .i64 x.f1.f0) ∧ w.cell? ⟨B, 2, none⟩ = some (.int .i64 x.f1.f1) ∧ w.cell? ⟨B, 3, none⟩ = some (.int .i64 x.f1.f2) ∧ w.cell? ⟨B, 4, none⟩ = some (.string x.f1.f3) ∧ w.cell? ⟨B, 5, none⟩ = some (.string x.f1.f4) ∧ w.cell? ⟨B, 6, none⟩ = some (.string x.f2)
theorem TgAt.cells {w : World} {B : Nat} {x : Tg} (h : TgAt w B x) : TgC w B x := ⟨(blk_cell h 0).trans rfl, (blk_cell h 1).trans rfl, (blk_cell h 2).trans rfl, (blk_cell h 3).trans rfl, (blk_cell h 4).trans rfl, (blk_cell h 5).trans rfl, (blk_cell h 6).trans rfl⟩
def latStep (p : ByteArray) (b : Option Tg) (x : Tg) : Option Tg := if x.f0 = p then (match b with | none => some x | some y => if 0 < tcmp x y then some x else some y) else b
theorem latFrom_snoc (p : ByteArray) (x : Tg) : ∀ (l : List Tg) (b : Option Tg), latFrom p b (l ++ [x]) = latStep p (latFrom p b l) x
  | [], b => rfl
  | y :: l, b => by
    rw [List.cons_append]
    exact latFrom_snoc p x l _
theorem rlcmp_calls (x y : Tg) (w : World) : Calls Tryz.prog 27 #[.agg #[.int .i64 x.f1.f0, .int .i64 x.f1.f1, .int .i64 x.f1.f2, .string x.f1.f3, .string x.f1.f4], .agg #[.int .i64 y.f1.f0, .int .i64 y.f1.f1, .int .i64 y.f1.f2, .string y.f1.f3, .string y.f1.f4]] w fun e w' => e = .returned (.int .i64 (tcmp x y)) ∧ Below w.heap.size w w' := by
  obtain ⟨K, hK⟩ := ref_Compare_f x.f1.f0 x.f1.f1 x.f1.f2 x.f1.f3 x.f1.f4 y.f1.f0 y.f1.f1 y.f1.f2 y.f1.f3 y.f1.f4
  exact armadaref07_Compare.calls K _ _ _ _ _ _ _ _ _ _ _ w (hK K (Nat.le_refl _))
def rlt.T6 : Bool × List (List Nat × List Nat) := (true, [([], []), ([], []), ([0, 1], [0, 1]), ([2], [2]), ([3], [3]), ([], []), ([4, 5], [4, 5]), ([6], [6]), ([7], [7]), ([8, 7], [7, 8]), ([9, 7, 7], [7, 9]), ([10], [10]), ([10], [10]), ([11, 12, 10], [10, 11, 12]), ([13, 10], [10, 13]), ([14, 10], [10, 14]), ([10], [10]), ([16, 10], [10, 16]), ([15, 17, 10, 10], [10, 15, 17]), ([18, 10], [10, 18]), ([10, 19, 7], [7, 10, 19]), ([7, 20], [7, 20])])
def rlt.B6 : List Nat := [0, 0, 3, 7, 15, 0, 63, 127, 255, 511, 1023, 2047, 2047, 8191, 16383, 32767, 2047, 67583, 262143, 524287, 1048575, 2097151]
theorem rlt.tab6 : rtab .any (opsOf Tryz.f15 6) = rlt.T6 := by kernel_rfl
theorem rlt.bits6 : waitsOk rlt.T6.2 rlt.B6 = true := by kernel_rfl
/-- The variables of the document's of. -/
structure LtIs (w : World) (b : Tg) (W : World) : Prop where
  base : Below w.heap.size w W
  z : TgAt W w.heap.size tz
  b : TgAt W (w.heap.size + 1) b
theorem LtIs.step {w W W' : World} {b : Tg} (h : LtIs w b W) (hb : Below W.heap.size W W') : LtIs w b W' := ⟨below_step h.base hb, blk_below h.z hb, blk_below h.b hb⟩
theorem LtIs.put {w W W' : World} {b y : Tg} (h : LtIs w b W) (hr : TgAt W' (w.heap.size + 1) y) (hg : W.grownBy W' (some (w.heap.size + 1))) : LtIs w y W' :=
  ⟨h.base.grown hg h.base.size (fun k hk => by cases hk; omega), blk_grown h.z hg (by simp), hr⟩
theorem lt_start (w : World) : LtIs w tz ((w.alloc (.cells (tgc tz) 32)).alloc (.cells (tgc tz) 32)) := by
  have h1 := heap_alloc_new (w.alloc (.cells (tgc tz) 32)) (.cells (tgc tz) 32)
  rw [show (w.alloc (.cells (tgc tz) 32)).heap.size = w.heap.size + 1 by simp] at h1
  exact ⟨below_alloc (below_alloc (Below.refl _ _) _) _, blk_alloc (heap_alloc_new w _) _, h1⟩
set_option maxRecDepth 100000 in
set_option maxHeartbeats 4000000 in
theorem rlat_calls (A : Option Addr) (c : Nat) (l : List Tg) (p : ByteArray) (w : World) (hr : Kd.C k32 w A l.length l) (hc : l.length ≤ c) (hl : l.length ≤ 4294967280) :
    Calls Tryz.prog 15 #[.slice A l.length c, .string p] w fun e w' => e = .returned (.tuple #[.agg (tgc ((latT l p).getD tz)), .bool (latT l p).isSome]) ∧ Below w.heap.size w w' := by
  have HR := Aside0.mk hr
  have HS := Aside0.mk (lt_start w)
  have HEND : Aside0 (latT (l.take l.length) p = latT l p) := ⟨by rw [List.take_length]⟩
  clear hr
  go_enter Tryz.func15, Tryz.ntmps15
  go_wp2
  go_loopg [7, 8] l.length (fun gg v7 s8 wr => ∃ (kk : Nat) (ob : Option Tg), kk ≤ l.length ∧ l.length - kk ≤ gg ∧ s8 = .int .i64 kk ∧ v7 = .bool ob.isSome ∧ Aside0 (latT (l.take kk) p = ob) ∧ Aside0 (LtIs w (ob.getD tz) wr))
  case atStart => exact ⟨0, none, Nat.zero_le _, by omega, rfl, rfl, ⟨rfl⟩, HS⟩
  case round =>
    clear HS
    obtain ⟨kk, ob, hkk, hg, rfl, rfl, HBK, HO⟩ := hrel
    by_cases hlt : kk < l.length
    · have hltz : (kk : Int) < (l.length : Int) := by omega
      obtain ⟨x, hx⟩ : ∃ x, l[kk]? = some x := ⟨_, List.getElem?_eq_getElem hlt⟩
      have hxe : rd_T32 l (kk : Int) = x := by
        unfold rd_T32
        rw [Int.toNat_natCast, List.getD_eq_getElem?_getD, hx]; rfl
      have hST : latT (l.take (kk + 1)) p = latStep p ob x := by
        rw [List.take_add_one, hx, ← HBK.out]
        exact latFrom_snoc _ _ _ _
      obtain ⟨ad, hA, _⟩ := at_T32 HR.out (kk : Int) (by omega) (by omega)
      subst hA
      have HGX : Aside0 (∀ W, Below w.heap.size w W → W.cell? (ad.add (kk * 7)) = some (.string x.f0) ∧ W.cell? ⟨(ad.add (kk * 7)).block, (ad.add (kk * 7)).off + 1, none⟩ = some (.int .i64 x.f1.f0) ∧ W.cell? ⟨(ad.add (kk * 7)).block, (ad.add (kk * 7)).off + 2, none⟩ = some (.int .i64 x.f1.f1) ∧ W.cell? ⟨(ad.add (kk * 7)).block, (ad.add (kk * 7)).off + 3, none⟩ = some (.int .i64 x.f1.f2) ∧ W.cell? ⟨(ad.add (kk * 7)).block, (ad.add (kk * 7)).off + 4, none⟩ = some (.string x.f1.f3) ∧ W.cell? ⟨(ad.add (kk * 7)).block, (ad.add (kk * 7)).off + 5, none⟩ = some (.string x.f1.f4) ∧ W.cell? ⟨(ad.add (kk * 7)).block, (ad.add (kk * 7)).off + 6, none⟩ = some (.string x.f2)) := ⟨fun W hb => by
        obtain ⟨ad2, hA2, h0, h1, h2, h3, h4, h5, h6⟩ := at_T32 (Kd.C_below HR.out hb) (kk : Int) (by omega) (by omega)
        obtain rfl := Option.some.inj hA2
        rw [hxe] at h0 h1 h2 h3 h4 h5 h6
        rw [Int.toNat_natCast] at h0 h1 h2 h3 h4 h5 h6
        exact ⟨h0, h1, h2, h3, h4, h5, h6⟩⟩
      obtain ⟨g0, g1, g2, g3, g4, g5, g6⟩ := HGX.out wr HO.out.base
      have HST := Aside0.mk hST
      clear hST hx hxe HBK
      obtain ⟨bb, hbb⟩ : ∃ bb, bb = ob.getD tz := ⟨_, rfl⟩
      have HBB := Aside0.mk hbb
      rw [← hbb] at HO
      clear hbb
      go_wp2
      refine sX (ds := []) (S := fun w' => TgC w' (w.heap.size + 1) bb ∧ w'.cell? (ad.add (kk * 7)) = some (.string x.f0) ∧ w'.cell? ⟨(ad.add (kk * 7)).block, (ad.add (kk * 7)).off + 1, none⟩ = some (.int .i64 x.f1.f0) ∧ w'.cell? ⟨(ad.add (kk * 7)).block, (ad.add (kk * 7)).off + 2, none⟩ = some (.int .i64 x.f1.f1) ∧ w'.cell? ⟨(ad.add (kk * 7)).block, (ad.add (kk * 7)).off + 3, none⟩ = some (.int .i64 x.f1.f2) ∧ w'.cell? ⟨(ad.add (kk * 7)).block, (ad.add (kk * 7)).off + 4, none⟩ = some (.string x.f1.f3) ∧ w'.cell? ⟨(ad.add (kk * 7)).block, (ad.add (kk * 7)).off + 5, none⟩ = some (.string x.f1.f4) ∧ w'.cell? ⟨(ad.add (kk * 7)).block, (ad.add (kk * 7)).off + 6, none⟩ = some (.string x.f2)) rlt.tab6 rlt.bits6 ⟨TgAt.cells (blk_drew HO.out.b), g0, g1, g2, g3, g4, g5, g6⟩ (fun HT_ HW_ hHeld => ?_)
      have HO2 := Aside0.mk (HO.out.step (below_drew1 (Below.refl _ _)))
      have hG2 := HGX.out wr.drew (HO2.out.base)
      generalize wr.drew = w2 at HO2 hHeld hG2 ⊢
      clear g0 g1 g2 g3 g4 g5 g6 HO
      refine pX HT_ 0 1 16 ?_
      refine pX HT_ 1 3 17 ?_
      refine pX HT_ 2 7 18 ?_
      refine pX HT_ 3 15 19 ?_
      refine pX HT_ 5 47 21 ?_
      refine tX HT_ HW_ hHeld 4 63 20 ?_
      cases hp : (x.f0.toList == p.toList) with
      | false =>
        have hne : ¬ x.f0 = p := fun e => by
          rw [e] at hp; simp at hp
        have HNO : Aside0 (latT (l.take (kk + 1)) p = ob) := ⟨by rw [HST.out]; unfold latStep; rw [if_neg hne]⟩
        rw [HBB.out] at HO2
        clear hne
        refine pX HT_ 6 127 22 ?_
        refine pX HT_ 7 255 23 ?_
        refine fX HT_ 8 511 24 ?_
        refine fX HT_ 9 1023 25 ?_
        refine fX HT_ 10 2047 26 ?_
        refine fX HT_ 11 4095 27 ?_
        refine fX HT_ 12 8191 28 ?_
        refine fX HT_ 13 16383 29 ?_
        refine fX HT_ 14 32767 30 ?_
        refine fX HT_ 15 65535 31 ?_
        refine fX HT_ 16 131071 32 ?_
        refine fX HT_ 17 262143 33 ?_
        refine fX HT_ 18 524287 34 ?_
        refine fX HT_ 19 1048575 35 ?_
        refine fX HT_ 20 2097151 36 ?_
        refine pX HT_ 21 4194303 37 ?_
        refine eX HT_ ?_
        clear HT_ HW_ hHeld
        go_wp2
        go_roundg (l.length - (kk + 1))
        case measure => omega
        case rel => exact ⟨kk + 1, ob, by omega, by omega, by go_num, rfl, ⟨HNO.out⟩, HO2⟩
      | true =>
        have hpath : x.f0 = p := by
          have : x.f0.toList = p.toList := by simpa using hp
          exact (toList_eq_iff _ _).1 this
        cases ob with
        | none =>
          have HYE : Aside0 (latT (l.take (kk + 1)) p = some x) := ⟨by rw [HST.out]; unfold latStep; rw [if_pos hpath]⟩
          simp only [Option.isSome_none]
          clear hpath
          refine pX HT_ 6 127 22 ?_
          refine pX HT_ 7 255 23 ?_
          refine pX HT_ 8 511 24 ?_
          refine pX HT_ 9 1023 25 ?_
          refine pX HT_ 10 2047 26 ?_
          refine fX HT_ 11 4095 27 ?_
          refine fX HT_ 12 8191 28 ?_
          refine fX HT_ 13 16383 29 ?_
          refine fX HT_ 14 32767 30 ?_
          refine fX HT_ 15 65535 31 ?_
          refine fX HT_ 16 131071 32 ?_
          refine fX HT_ 17 262143 33 ?_
          refine fX HT_ 18 524287 34 ?_
          refine fX HT_ 19 1048575 35 ?_
          refine pX HT_ 20 2097151 36 ?_
          refine pX HT_ 21 4194303 37 ?_
          refine eX HT_ ?_
          clear HT_ HW_ hHeld
          obtain ⟨e0, e1, e2, e3, e4, e5, e6⟩ := hG2
          go_wp2_with ((with_reducible refine gate_ (.store 32 (.tmp 6) (.tmp 41)) rfl ?_); refine store_ev 32 (.tmp 6) (.tmp 41) rfl rfl rfl 0 (tgl x) HO2.out.b rfl rfl rfl (by kernel_rfl) (show 0 + 7 ≤ 7 by decide) (tgl_one _) rfl ?_; intro w9 hr hg; have HO9 := Aside0.mk (HO2.out.put hr hg); clear hr hg)
          go_roundg (l.length - (kk + 1))
          case measure => omega
          case rel => exact ⟨kk + 1, some x, by omega, by omega, by go_num, rfl, ⟨HYE.out⟩, HO9⟩
        | some b =>
          obtain rfl : bb = b := HBB.out
          simp only [Option.isSome_some]
          have hcmp := fun W => rlcmp_calls x bb W
          by_cases hz : tcmp x bb > 0
          · have HYE : Aside0 (latT (l.take (kk + 1)) p = some x) := ⟨by rw [HST.out]; unfold latStep; rw [if_pos hpath]; simp only [if_pos hz]⟩
            have hzd : decide (tcmp x bb > 0) = true := decide_eq_true hz
            clear hpath hz
            generalize tcmp x bb = z at hcmp hzd
            refine pX HT_ 6 127 22 ?_
            refine pX HT_ 7 255 23 ?_
            refine pX HT_ 8 511 24 ?_
            refine pX HT_ 9 1023 25 ?_
            refine pX HT_ 10 2047 26 ?_
            refine pX HT_ 11 4095 27 ?_
            refine pX HT_ 12 8191 28 ?_
            refine pX HT_ 13 16383 29 ?_
            refine pX HT_ 14 32767 30 ?_
            refine pX HT_ 16 98303 32 ?_
            refine tX HT_ HW_ hHeld 15 131071 31 ?_
            refine tX HT_ HW_ hHeld 17 262143 33 ?_
            refine gX HT_ 18 524287 34 Tryz.func27 (hcmp w2) ?_
            rintro e w3 ⟨rfl, hb⟩
            have HO3 := Aside0.mk (HO2.out.step hb)
            have hG3 := HGX.out w3 HO3.out.base
            clear HO2 hHeld hb hG2 hcmp
            refine ⟨_, rfl, _, nX, ⟨HO3.out.b.cells, hG3⟩, fun hHeld => ?_⟩
            refine pX HT_ 19 1048575 35 ?_
            refine pX HT_ 20 2097151 36 ?_
            refine pX HT_ 21 4194303 37 ?_
            refine eX HT_ ?_
            clear HT_ HW_ hHeld
            obtain ⟨e0, e1, e2, e3, e4, e5, e6⟩ := hG3
            go_wp2_with ((with_reducible refine gate_ (.store 32 (.tmp 6) (.tmp 41)) rfl ?_); refine store_ev 32 (.tmp 6) (.tmp 41) rfl rfl rfl 0 (tgl x) HO3.out.b rfl rfl rfl (by kernel_rfl) (show 0 + 7 ≤ 7 by decide) (tgl_one _) rfl ?_; intro w9 hr hg; have HO9 := Aside0.mk (HO3.out.put hr hg); clear hr hg)
            go_roundg (l.length - (kk + 1))
            case measure => omega
            case rel => exact ⟨kk + 1, some x, by omega, by omega, by go_num, rfl, ⟨HYE.out⟩, HO9⟩
          · have HYE : Aside0 (latT (l.take (kk + 1)) p = some bb) := ⟨by rw [HST.out]; unfold latStep; rw [if_pos hpath]; simp only [if_neg hz]⟩
            have hzd : decide (tcmp x bb > 0) = false := decide_eq_false hz
            clear hpath hz
            generalize tcmp x bb = z at hcmp hzd
            refine pX HT_ 6 127 22 ?_
            refine pX HT_ 7 255 23 ?_
            refine pX HT_ 8 511 24 ?_
            refine pX HT_ 9 1023 25 ?_
            refine pX HT_ 10 2047 26 ?_
            refine pX HT_ 11 4095 27 ?_
            refine pX HT_ 12 8191 28 ?_
            refine pX HT_ 13 16383 29 ?_
            refine pX HT_ 14 32767 30 ?_
            refine pX HT_ 16 98303 32 ?_
            refine tX HT_ HW_ hHeld 15 131071 31 ?_
            refine tX HT_ HW_ hHeld 17 262143 33 ?_
            refine gX HT_ 18 524287 34 Tryz.func27 (hcmp w2) ?_
            rintro e w3 ⟨rfl, hb⟩
            have HO3 := Aside0.mk (HO2.out.step hb)
            have hG3 := HGX.out w3 HO3.out.base
            clear HO2 hHeld hb hG2 hcmp
            refine ⟨_, rfl, _, nX, ⟨HO3.out.b.cells, hG3⟩, fun hHeld => ?_⟩
            refine pX HT_ 19 1048575 35 ?_
            refine pX HT_ 20 2097151 36 ?_
            refine pX HT_ 21 4194303 37 ?_
            refine eX HT_ ?_
            clear HT_ HW_ hHeld
            go_wp2
            go_roundg (l.length - (kk + 1))
            case measure => omega
            case rel => exact ⟨kk + 1, some bb, by omega, by omega, by go_num, rfl, ⟨HYE.out⟩, HO3⟩
    · have hltz : ¬ (kk : Int) < (l.length : Int) := by omega
      have : kk = l.length := by omega
      subst this
      have hb2 : ob = latT l p := HBK.out.symm.trans HEND.out
      obtain ⟨bd, hbd⟩ : ∃ bd, bd = ob.getD tz := ⟨_, rfl⟩
      rw [← hbd] at HO
      have HBD := Aside0.mk (And.intro hb2 hbd)
      clear HBK HEND hb2 hbd
      obtain ⟨c0, c1, c2, c3, c4, c5, c6⟩ := HO.out.b.cells
      go_wp2_with ((with_reducible refine gate_ (.store 32 (.tmp 4) (.tmp 42)) rfl ?_); refine store_ev 32 (.tmp 4) (.tmp 42) rfl rfl rfl 0 (tgl bd) HO.out.z rfl rfl rfl (by kernel_rfl) (show 0 + 7 ≤ 7 by decide) (tgl_one _) rfl ?_; intro w2 hr2 hg2; have HR2 := Aside0.mk (show w2.heap[w.heap.size]? = some (.cells (tgc bd) 32 (0, 0)) from hr2); have HB3 := Aside0.mk (HO.out.base.grown hg2 HO.out.base.size (fun k hk => by cases hk; omega)); clear hr2 hg2)
      (try simp only [Exit.inBlock, Exit.then])
      refine bodyPost_ret (results_ct rfl _ _ (w.heap.size) 32 (tgc bd) (0, 0) _ rfl HR2.out Tryz.underlying32 rfl (by kernel_rfl)) rfl ⟨by rw [← HBD.out.1, ← HBD.out.2]; rfl, HB3.out⟩
def armadaref15_Latest.f (l : List Tg) (p : ByteArray) : Option (ByteArray × Int × Int × Int × ByteArray × ByteArray × ByteArray × Bool) := if l.length ≤ 4294967280 then some (flatT (latT l p)) else none
theorem armadaref15_Latest.calls (A0 : Option Addr) (c0 : Nat) (l0 : List Tg) (a1 : ByteArray) (r1 : ByteArray) (r2 : Int) (r3 : Int) (r4 : Int) (r5 : ByteArray) (r6 : ByteArray) (r7 : ByteArray) (r8 : Bool) (w : World) (hr0 : Kd.C k32 w A0 l0.length l0) (hc0 : l0.length ≤ c0) (h : armadaref15_Latest.f l0 a1 = some (r1, r2, r3, r4, r5, r6, r7, r8)) :
    Calls Tryz.prog 15 #[.slice A0 l0.length c0, .string a1] w fun e w' => e = .returned (.tuple #[.agg #[.string r1, .int .i64 r2, .int .i64 r3, .int .i64 r4, .string r5, .string r6, .string r7], .bool r8]) ∧ Below w.heap.size w w' := by
  unfold armadaref15_Latest.f at h
  split at h
  · rename_i hs
    have h2 := Option.some.inj h
    simp only [flatT, Prod.mk.injEq] at h2
    obtain ⟨rfl, rfl, rfl, rfl, rfl, rfl, rfl, rfl⟩ := h2
    exact rlat_calls A0 c0 l0 a1 w hr0 hc0 hs
  · cases h
end Go.Proofs.YtjdhdjmdmnedfaaGreatDoor
end
