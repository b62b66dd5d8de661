/- The texts BpSeq, IClone in one file, without what these claims do not use (put together by prune2.py). -/
import Derived.Test.YtillhaipemengaaGreatDoorZB34
import Derived.Test.YtillhaipemengaaGreatDoorZB21
import Derived.Test.YtillhaipemengaaGreatDoorZB11
import Derived.Sort.LoopGhostIn
import Derived.Test.YtillhaipemengaaGreatDoorZB5
import Derived.Lib.SliceRun
import Derived.Shelf.Abstract
section
namespace Go.Proofs.YtillhaipemengaaGreatDoor
open Go Go.RowKit Go.Sort Go.Shelf Go.Proofs Go.Proofs.YtillhaipemengaaGreatDoorW.PrintWords Go.Proofs.YtillhaipemengaaGreatDoor.K0
attribute [local go_sem] Oper.semAt_some
set_option linter.unusedVariables false
set_option linter.unusedSimpArgs false
abbrev enc2 (x : Rl × Int) : Array Value := #[.agg (rlc x.1), .int .i64 x.2]
/-- What the iterator leans on. -/
structure RlEnv (l : List Md) (tg : List Tg) (ws : List Wt) (order ups : List Int) (A0 A1 A3 Ao Au : Option Addr) (c0 c1 c3 co cu bo bu bp : Nat) (W : World) : Prop where
  cO : W.cell? ⟨bo, 0, none⟩ = some (.slice Ao order.length co)
  cU : W.cell? ⟨bu, 0, none⟩ = some (.slice Au ups.length cu)
  cP : W.heap[bp]? = some (.cells (plc A0 A1 A3 l.length c0 tg.length c1 ws.length c3) 86 (0, 0))
  rO : Kd.C (Kd.int .i64) W Ao order.length order
  rU : Kd.C (Kd.int .i64) W Au ups.length ups
  r0 : Kd.C k63 W A0 l.length l
  r1 : Kd.C k71 W A1 tg.length tg
  r3 : Kd.C k72 W A3 ws.length ws
  hG : GW W
section
variable {l : List Md} {tg : List Tg} {ws : List Wt} {order ups : List Int} {A0 A1 A3 Ao Au : Option Addr} {c0 c1 c3 co cu bo bu bp : Nat}
theorem RlEnv.below {W W' : World} (h : RlEnv l tg ws order ups A0 A1 A3 Ao Au c0 c1 c3 co cu bo bu bp W) (hb : Below W.heap.size W W') : RlEnv l tg ws order ups A0 A1 A3 Ao Au c0 c1 c3 co cu bo bu bp W' :=
  ⟨below_cell hb h.cO, below_cell hb h.cU, blk_below h.cP hb, Kd.C_below h.rO hb, Kd.C_below h.rU hb, Kd.C_below h.r0 hb, Kd.C_below h.r1 hb, Kd.C_below h.r3 hb, h.hG.below hb⟩
theorem fil_up {p : Int → Bool} {f : Int → Rl × Int} {o : List Int} {k : Nat} {z : Int} (h : o[k]? = some z) : (((o.take (k + 1)).filter p).map f) = if p z = true then ((o.take k).filter p).map f ++ [f z] else ((o.take k).filter p).map f := by
  rw [List.take_add_one, h, List.filter_append, List.map_append]
  cases hp : p z <;> simp [hp]
theorem fil_pre {p : Int → Bool} {f : Int → Rl × Int} {o : List Int} {k : Nat} : (((o.take k).filter p).map f) <+: ((o.filter p).map f) :=
  ⟨((o.drop k).filter p).map f, by rw [← List.map_append, ← List.filter_append, List.take_append_drop]⟩
set_option maxRecDepth 100000 in
set_option maxHeartbeats 4000000 in
theorem released_has (w : World) (keep : Nat → Prop) (hol : order.length ≤ 4294967290) (hin : ∀ z ∈ order, 0 ≤ z ∧ z.toNat < l.length) (ht : tg.length ≤ 4294967280) (hc1 : tg.length ≤ c1)
    (henv : ∀ W, w.heap.size ≤ W.heap.size → (∀ k, keep k → W.heap[k]? = w.heap[k]?) → RlEnv l tg ws order ups A0 A1 A3 Ao Au c0 c1 c3 co cu bo bu bp W) (hkl : ∀ k, keep k → k < w.heap.size) :
    SeqHas Tryz.prog 81 #[.pointer (some ⟨bo, 0, none⟩), .pointer (some ⟨bu, 0, none⟩), .pointer (some ⟨bp, 0, none⟩)] enc2 ((order.filter fun z => ups.contains z).map (relAt l tg ws)) keep (fun _ => False) w := by
  obtain ⟨full, hfull⟩ : ∃ full, ((order.filter fun z => ups.contains z).map (relAt l tg ws)) = full := ⟨_, rfl⟩
  have HFU := Aside0.mk hfull
  rw [hfull]
  clear hfull
  intro l' J Jx W hW hkeep hJ hJx hY h0
  have E0 := henv W hW hkeep
  have hcont := fun (z : Int) (W : World) (E : RlEnv l tg ws order ups A0 A1 A3 Ao Au c0 c1 c3 co cu bo bu bp W) => Contains_Int Au cu ups z W E.rU
  have hnext := fun (z : Nat) (m : Md) (hm : l[z]? = some m) (W : World) (E : RlEnv l tg ws order ups A0 A1 A3 Ao Au c0 c1 c3 co cu bo bu bp W) => next_calls A0 A1 A3 c0 c1 c3 l tg ws z m W E.r0 E.r3 hm (fun n W' hb => bnext_calls m.f1 A1 c1 tg n W' (E.hG.below hb) (Kd.C_below E.r1 hb) hc1 ht)
  obtain ⟨n, hn⟩ : ∃ n, n = order.length := ⟨_, rfl⟩
  have hoc := E0.cO
  rw [← hn] at hoc hol
  have HN := Aside0.mk hn
  have HE := Aside0.mk henv
  have HC := Aside0.mk hcont
  have HX := Aside0.mk hnext
  have HY := Aside0.mk hY
  have HI := Aside0.mk hin
  have HJ := Aside0.mk hJ
  clear henv hcont hnext hY hin E0 hn hJ
  refine callsIn_of_wp Tryz.func81 rfl trivial ?_ rfl
  simp only [Tryz.ntmps81, List.size_toArray, List.length_cons, List.length_nil, Nat.reduceAdd, Nat.reduceSub, Array.replicate_succ, Array.replicate_zero, List.push_toArray, List.append_toArray, List.nil_append, List.cons_append]
  gi_wp2
  gi_loopg [6, 9] n (fun gg s6 s9 wr => ∃ kk : Nat, kk ≤ n ∧ n - kk ≤ gg ∧ s9 = .int .i64 kk ∧ Aside0 (J (((order.take kk).filter fun z => ups.contains z).map (relAt l tg ws)) wr) ∧ Aside0 (w.heap.size ≤ wr.heap.size ∧ ∀ k, keep k → wr.heap[k]? = w.heap[k]?))
  case atStart => exact ⟨0, Nat.zero_le _, by omega, rfl, ⟨h0⟩, ⟨hW, hkeep⟩⟩
  case round =>
    clear hoc
    obtain ⟨kk, hkk, hg, rfl, HJW, HK⟩ := hrel
    have E1 := Aside0.mk (HE.out wr HK.out.1 HK.out.2)
    by_cases hlt : kk < n
    · have hltz : (kk : Int) < (n : Int) := by omega
      obtain ⟨z, hz⟩ : ∃ z, order[kk]? = some z := ⟨_, List.getElem?_eq_getElem (by have := HN.out; omega)⟩
      obtain ⟨hz0, hzl⟩ := HI.out z (List.mem_of_getElem? hz)
      obtain ⟨m, hm⟩ : ∃ m, l[z.toNat]? = some m := ⟨_, List.getElem?_eq_getElem hzl⟩
      have hnx := HX.out z.toNat m hm
      rw [Int.toNat_of_nonneg hz0] at hnx
      obtain ⟨ad, cs, hA, _, hKc, hcell⟩ := Kd.C_get E1.out.rO (0 : Int) (kk : Int) (by omega) (by have := HN.out; omega)
      have hxe : order.getD (kk : Int).toNat 0 = z := by
        rw [Int.toNat_natCast, List.getD_eq_getElem?_getD, hz]; rfl
      rw [hxe] at hKc
      obtain rfl : cs = [.int .i64 z] := hKc
      have h0' : wr.cell? (ad.add kk) = some (.int .i64 z) := by
        have := hcell 0 _ rfl
        rw [Int.toNat_natCast, show (Kd.int .i64).sz = 1 from rfl] at this
        simpa using this
      have hup := fil_up (p := fun z => ups.contains z) (f := relAt l tg ws) hz
      subst hA
      have hcu := E1.out.cU
      have HNXT := Aside0.mk hnx
      have HUP := Aside0.mk hup
      clear hxe hcell hm hnx hup hzl hz
      cases hq : ups.contains z with
      | false =>
        have hco := HC.out z wr E1.out
        rw [hq] at hco
        have HUP2 : Aside0 ((((order.take (kk + 1)).filter fun z => ups.contains z).map (relAt l tg ws)) = (((order.take kk).filter fun z => ups.contains z).map (relAt l tg ws))) := ⟨HUP.out.trans (if_neg (by rw [hq]; simp))⟩
        gi_wp2_with (refine ⟨trivial, rfl, ?_⟩; gi_at_call 82; refine (callsIn_wide.2 hco).mono ?_; rintro e w2 ⟨rfl, hb2⟩; have HB2 := Aside0.mk hb2; clear hb2)
        refine ⟨trivial, ?_⟩
        gi_wp2
        refine ⟨fun _ h => (by cases h), ?_⟩
        gi_wp2
        gi_roundg (n - (kk + 1))
        case measure => omega
        case rel => exact ⟨kk + 1, by omega, by omega, by go_num, ⟨by rw [HUP2.out]; exact HJ.out _ _ _ HJW.out (Moves.of_below HB2.out)⟩, ⟨Nat.le_trans HK.out.1 HB2.out.size, fun k hk => (HB2.out.block k (by have := hkl k hk; have := HK.out.1; omega)).trans (HK.out.2 k hk)⟩⟩
      | true =>
        have hco := HC.out z wr E1.out
        rw [hq] at hco
        have HUP2 : Aside0 ((((order.take (kk + 1)).filter fun z => ups.contains z).map (relAt l tg ws)) = (((order.take kk).filter fun z => ups.contains z).map (relAt l tg ws)) ++ [relAt l tg ws z]) := ⟨HUP.out.trans (if_pos hq)⟩
        have hpre : (((order.take kk).filter fun z => ups.contains z).map (relAt l tg ws)) ++ [relAt l tg ws z] <+: full := by rw [← HUP2.out, ← HFU.out]; exact fil_pre
        have HPRE := Aside0.mk hpre
        clear hpre hq
        gi_wp2_with (first | (refine ⟨trivial, rfl, ?_⟩; gi_at_call 82; refine (callsIn_wide.2 hco).mono ?_; rintro e w2 ⟨rfl, hb2⟩; have E2 := Aside0.mk (E1.out.below hb2); have HJ2 := Aside0.mk (HJ.out _ _ _ HJW.out (Moves.of_below hb2)); have HK2 : Aside0 (w.heap.size ≤ w2.heap.size ∧ ∀ k, keep k → w2.heap[k]? = w.heap[k]?) := ⟨⟨Nat.le_trans HK.out.1 hb2.size, fun k hk => (hb2.block k (by have := hkl k hk; have := HK.out.1; omega)).trans (HK.out.2 k hk)⟩⟩; have p0 := blk_cell E2.out.cP 0; have p1 := blk_cell E2.out.cP 1; have p2 := blk_cell E2.out.cP 2; clear hb2 hcu h0') | (refine ⟨trivial, rfl, ?_⟩; gi_at_call 83; refine (callsIn_wide.2 (HNXT.out _ E2.out)).mono ?_; rintro e w3 ⟨rfl, hb3⟩; have HJ3 := Aside0.mk (HJ.out _ _ _ HJ2.out (Moves.of_below hb3)); have HK3 : Aside0 (w.heap.size ≤ w3.heap.size ∧ ∀ k, keep k → w3.heap[k]? = w.heap[k]?) := ⟨⟨Nat.le_trans HK2.out.1 hb3.size, fun k hk => (hb3.block k (by have := hkl k hk; have := HK2.out.1; omega)).trans (HK2.out.2 k hk)⟩⟩; obtain ⟨fn, tmps, assign, body, hy, hR⟩ := HY.out _ _ w3 HJ3.out HPRE.out; clear hb3 p0 p1 p2))
        refine ⟨rfl, hR.mono ?_⟩
        rintro e W4 (⟨rfl, hJ4, hz4, hk4⟩ | ⟨rfl, hJx4⟩)
        · have HJ4 := Aside0.mk hJ4
          have HK4 : Aside0 (w.heap.size ≤ W4.heap.size ∧ ∀ k, keep k → W4.heap[k]? = w.heap[k]?) := ⟨⟨Nat.le_trans HK3.out.1 hz4, fun k hk => (hk4 k hk).trans (HK3.out.2 k hk)⟩⟩
          clear hJ4 hz4 hk4 hy hR
          gi_wp2
          gi_roundg (n - (kk + 1))
          case measure => omega
          case rel => exact ⟨kk + 1, by omega, by omega, by go_num, ⟨by rw [HUP2.out]; exact HJ4.out⟩, HK4⟩
        · have HX4 := Aside0.mk hJx4
          clear hJx4 hy hR
          gi_wp2
          refine bodyPost_ret (results_none rfl _ _ _) rfl ?_
          exact ⟨⟨_, rfl⟩, .inr ⟨_, HPRE.out, HX4.out⟩⟩
    · have hltz : ¬ (kk : Int) < (n : Int) := by omega
      have : kk = n := by omega
      subst this
      gi_wp2
      go_end0
      refine ⟨⟨_, rfl⟩, .inl ?_⟩
      have h := HJW.out
      rw [List.take_of_length_le (by have := HN.out; omega), HFU.out] at h
      exact h
end
end Go.Proofs.YtillhaipemengaaGreatDoor
end

section
namespace Go.Proofs.YtillhaipemengaaGreatDoor
open Go Go.RowKit Go.Proofs Go.Proofs.YtillhaipemengaaGreatDoorW.PrintWords Go.Proofs.YtillhaipemengaaGreatDoor.K0
set_option linter.unusedVariables false
set_option linter.unusedSimpArgs false
def icl (t : Int) : List Value := [.int .i64 t]
def ics (l : List Int) : List Value := l.flatMap icl
theorem ics_len (l : List Int) : (ics l).length = l.length * 1 := by
  induction l with
  | nil => rfl
  | cons t l ih => unfold ics at ih ⊢; rw [List.flatMap_cons, List.length_append, ih, List.length_cons]; simp [icl]; omega
theorem ics_drop : ∀ (l : List Int) (j : Nat), (ics l).drop (j * 1) = ics (l.drop j)
  | [], j => by simp [ics]
  | t :: l, 0 => rfl
  | t :: l, j + 1 => by
    have ih := ics_drop l j
    have e : (j + 1) * 1 = (icl t).length + j * 1 := by simp [icl]; omega
    rw [List.drop_succ_cons, ← ih, e]
    show List.drop _ (icl t ++ ics l) = _
    rw [← List.drop_drop, List.drop_left]
theorem ics_at {l : List Int} {j : Nat} {t : Int} (h : l[j]? = some t) : ((ics l).drop (j * 1)).take 1 = icl t := by
  obtain ⟨hj, e⟩ := List.getElem?_eq_some_iff.1 h
  rw [ics_drop, List.drop_eq_getElem_cons hj, e]
  show List.take 1 (icl t ++ ics (l.drop (j + 1))) = _
  exact List.take_left' rfl
theorem ics_row (l : List Int) (w : World) (b : Nat) (ok : Nat → Prop) : Reps ((Kd.int .i64).M w b ok) 1 l (ics l) :=
  ⟨ics_len l, fun j p hp => by rw [ics_at hp]; exact rfl⟩
theorem ics_cells {w : World} {A : Option Addr} {l : List Int} {ad : Addr} (h : Kd.C (Kd.int .i64) w (some ad) l.length l) (j : Nat) (u : Value) (hu : (ics l)[j]? = some u) : w.cell? (ad.add j) = some u := by
  have hj : j < l.length * 1 := by rw [← ics_len]; exact (List.getElem?_eq_some_iff.1 hu).1
  obtain ⟨t, ht⟩ : ∃ t, l[j / 1]? = some t := ⟨_, List.getElem?_eq_getElem (by omega)⟩
  obtain ⟨ad2, hA, hc⟩ := h.2.2 (by omega)
  obtain rfl := Option.some.inj hA
  obtain ⟨c, _, hK, hcell⟩ := hc (j / 1) t ht
  obtain rfl : c = icl t := hK
  have e : (ics l)[j]? = (icl t)[j % 1]? := by
    rw [← ics_at ht, List.getElem?_take, if_pos (Nat.mod_lt _ (by decide)), List.getElem?_drop]
    congr 1; omega
  rw [e] at hu
  have := hcell (j % 1) u hu
  rwa [show j / 1 * (Kd.int .i64).sz + j % 1 = j from by show j / 1 * 1 + j % 1 = j; omega] at this
def slices_Clone.f (l0 : List Int) : Option (List Int) := if l0.length * 8 ≤ 140737488355328 then some l0 else none
set_option maxRecDepth 100000 in
set_option maxHeartbeats 1000000 in
theorem slices_Clone.calls (A0 : Option Addr) (c0 : Nat) (l0 : List Int) (r : List Int) (w : World) (hr0 : Kd.C (Kd.int .i64) w A0 l0.length l0) (hc0 : l0.length ≤ c0) (h : slices_Clone.f l0 = some r) :
    Calls Tryz.prog 40 #[.slice A0 l0.length c0] w fun e w' => ∃ v0_ : Value, e = .returned (v0_) ∧ Kd.R (Kd.int .i64) 3 w' w.heap.size (fun _ => True) v0_ r ∧ Below w.heap.size w w' := by
  unfold slices_Clone.f at h
  split at h
  · rename_i hs
    obtain rfl := Option.some.inj h
    clear h hc0
    have q := fun (w : World) (a : Option Addr) (n c n' c' : Nat) => Lib.run_eql_slice_nil w 39 3 a n c n' c' Tryz.underlying39
    cases A0 with
    | none =>
      have h0 : l0 = [] := by
        rcases l0 with _ | ⟨b, l⟩
        · rfl
        · obtain ⟨ad, hA, _⟩ := hr0.2.2 (by simp)
          cases hA
      subst h0
      clear hr0
      go_enter Tryz.func40, Tryz.ntmps40
      go_wp2
      go_ret
      exact ⟨_, rfl, Kd.R_nil _ _ _ _ _, Below.refl _ _⟩
    | some ad =>
      obtain ⟨i0, hi, hz0, hz1, hz2⟩ := info_parts info3
      have HC := Aside0.mk (ics_cells (A := none) hr0)
      have hb := hr0.2.1
      have hlen := ics_len l0
      have HROW := Aside0.mk (fun W b ok => ics_row l0 W b ok)
      have hone : ∀ u ∈ ics l0, u.oneCell' = true := by
        intro u hu
        obtain ⟨t, _, ht⟩ := List.mem_flatMap.1 hu
        simp only [icl, List.mem_cons, List.not_mem_nil, or_false] at ht
        rcases ht with rfl <;> rfl
      have HONE := Aside0.mk hone
      obtain ⟨n, hn⟩ : ∃ n, n = l0.length := ⟨_, rfl⟩
      rw [← hn] at hb hlen hs ⊢
      have HL := Aside0.mk hlen
      have HN := Aside0.mk hn
      clear hr0 hone hlen hn
      go_enter Tryz.func40, Tryz.ntmps40
      go_wp2_with (at_builtin; refine wpList_append_own _ rfl _ _ 39 rfl w.heap.size 3 i0 _ 1 8 Tryz.underlying39 hi hz0 hz1 hz2 rfl (by decide) _ _ _ rfl (World.ownsRow_made w #[] 0 (Nat.le_refl _) (Nat.zero_le _) (by simp)) ad n c0 (ics l0) rfl ?qc1 ?qc2 ?qc3 ?qc4 ?qc5 ?qc6 ?_)
      case qc1 => exact HL.out
      case qc2 => exact fun j u hj => Lib.cell?_alloc_some _ (HC.out j u hj)
      case qc3 => exact HONE.out
      case qc4 => rw [Nat.zero_add]; exact hb
      case qc5 => rw [Nat.zero_add]; exact hs
      case qc6 => simp
      intro v' w1 hown hgrow hnil
      go_wp2
      go_ret
      refine ⟨v', rfl, ⟨fun _ _ => trivial, ics l0, ?_, HROW.out _ _ _⟩, ?_⟩
      · rw [← HN.out]
        exact hown
      · exact ((Below.refl _ w).alloc (Nat.le_refl _) _).grown hgrow (by simp) (by intro k hk; simp [Value.ownBlock] at hk; omega)
  · cases h
end Go.Proofs.YtillhaipemengaaGreatDoor
end
