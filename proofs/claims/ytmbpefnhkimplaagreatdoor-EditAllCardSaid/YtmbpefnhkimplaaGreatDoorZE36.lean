/- The texts MnPw in one file, without what these claims do not use (put together by prune2.py). -/
import Derived.Test.YtmbpefnhkimplaaGreatDoorZE34
import Derived.Test.YtmbpefnhkimplaaGreatDoorZE35
import Derived.Test.YtmbpefnhkimplaaGreatDoorZE5
import Derived.Test.YtmbpefnhkimplaaGreatDoorZE19
section
namespace Go.Proofs.YtmbpefnhkimplaaGreatDoor
open Go Go.RowKit Go.Sort Go.Maps Go.Proofs Go.Proofs.YtmbpefnhkimplaaGreatDoorW.PrintWords Go.Proofs.YtmbpefnhkimplaaGreatDoorW.PrintLast Go.Proofs.YtmbpefnhkimplaaGreatDoor.K0 Go.Proofs.YtmbpefnhkimplaaGreatDoor.R1 Go.Proofs.YtmbpefnhkimplaaGreatDoor.R2
set_option linter.unusedVariables false
set_option linter.unusedSimpArgs false
/-- Parse: a manifest, a place, an error. -/
def manOf (x : Ps) : S55 := ⟨x.mod, x.rel, x.reqs, x.swaps, x.excl, x.retr⟩
def maniP (s : ByteArray) : S55 × Int × Int := match parseP s with
  | .inr (k, er) => (z55, k, er)
  | .inl (x, n) => (manOf x, n, 0)
/-- A manifest that was made: its slices are new. -/
structure MnMade (w : World) (base : Nat) (m : S55) (v2 v3 v4 v5 : Value) : Prop where
  o2 : Kd.R k25 25 w base (fun _ => True) v2 m.f2
  o3 : Kd.R k89 89 w base (fun _ => True) v3 m.f3
  o4 : Kd.R k25 25 w base (fun _ => True) v4 m.f4
  o5 : Kd.R k90 90 w base (fun _ => True) v5 m.f5
theorem MnMade.zero (w : World) (base : Nat) : MnMade w base z55 (.slice none 0 0) (.slice none 0 0) (.slice none 0 0) (.slice none 0 0) := ⟨Kd.R_nil _ _ _ _ _, Kd.R_nil _ _ _ _ _, Kd.R_nil _ _ _ _ _, Kd.R_nil _ _ _ _ _⟩
theorem PsIs.made {w0 w1 w : World} {P : Nat} {p : PVals} {x : Ps} (h : PsIs w0 w1 P p x w) {base : Nat} (hb : base ≤ w0.heap.size) : MnMade w base (manOf x) p.v2 p.v3 p.v4 p.v5 := by
  have hs : base ≤ w1.heap.size := Nat.le_trans hb (Nat.le_of_lt (Nat.lt_of_le_of_lt h.ge h.lt))
  exact ⟨Kd.R_lower (Kd.R_mono h.o2 (fun _ _ => trivial)) hs, Kd.R_lower (Kd.R_mono h.o3 (fun _ _ => trivial)) hs, Kd.R_lower (Kd.R_mono h.o4 (fun _ _ => trivial)) hs, Kd.R_lower (Kd.R_mono h.o5 (fun _ _ => trivial)) hs⟩
theorem MnMade.grown {w w' : World} {base b : Nat} {m : S55} {v2 v3 v4 v5 : Value} (h : MnMade w base m v2 v3 v4 v5) (hg : w.grownBy w' (some b)) (hb : b < base) : MnMade w' base m v2 v3 v4 v5 := by
  have f : ∀ {α : Type} {k : Kd α} {e : TypeId} {v : Value} {l : List α}, Kd.R k e w base (fun _ => True) v l → Kd.R k e w' base (fun _ => True) v l := fun h => Kd.R_mono (Kd.R_grown (Kd.R_bound h) hg (fun k hk e => by have := Option.some.inj e; have := hk.2.1; omega)) (fun _ _ => trivial)
  exact ⟨f h.o2, f h.o3, f h.o4, f h.o5⟩
theorem MnMade.lower {w : World} {base base' : Nat} {m : S55} {v2 v3 v4 v5 : Value} (h : MnMade w base m v2 v3 v4 v5) (hb : base' ≤ base) : MnMade w base' m v2 v3 v4 v5 := ⟨Kd.R_lower h.o2 hb, Kd.R_lower h.o3 hb, Kd.R_lower h.o4 hb, Kd.R_lower h.o5 hb⟩
theorem one_mc {w0 w1 w : World} {P : Nat} {p : PVals} {x : Ps} (h : PsIs w0 w1 P p x w) : ∀ q ∈ (#[.string x.mod, .string x.rel, p.v2, p.v3, p.v4, p.v5] : Array Value).toList, q.oneCell' = true := by
  obtain ⟨A2, c2, h2⟩ := Kd.R_slice h.o2
  obtain ⟨A3, c3, h3⟩ := Kd.R_slice h.o3
  obtain ⟨A4, c4, h4⟩ := Kd.R_slice h.o4
  obtain ⟨A5, c5, h5⟩ := Kd.R_slice h.o5
  rw [h2, h3, h4, h5]
  simp [Value.oneCell']
set_option maxRecDepth 100000 in
set_option maxHeartbeats 4000000 in
theorem mParse_calls (s : ByteArray) (hs : s.size ≤ 400000) (w : World) (hG : GW w) : Calls Tryz.prog 27 #[.string s] w fun e w' => ∃ v2 v3 v4 v5, e = .returned (.tuple #[.agg #[.string (maniP s).1.f0, .string (maniP s).1.f1, v2, v3, v4, v5], .int .i64 (maniP s).2.1, .int .i64 (maniP s).2.2]) ∧ MnMade w' w.heap.size (maniP s).1 v2 v3 v4 v5 ∧ Below w.heap.size w w' := by
  have HB0 := Aside0.mk (below_alloc (Below.refl w.heap.size w) (.cells #[.string ⟨#[]⟩, .string ⟨#[]⟩, .slice none 0 0, .slice none 0 0, .slice none 0 0, .slice none 0 0] 55))
  have HR0 := Aside0.mk (heap_alloc_new w (.cells #[.string ⟨#[]⟩, .string ⟨#[]⟩, .slice none 0 0, .slice none 0 0, .slice none 0 0, .slice none 0 0] 55))
  have hpa := parse_calls s hs (w.alloc (.cells #[.string ⟨#[]⟩, .string ⟨#[]⟩, .slice none 0 0, .slice none 0 0, .slice none 0 0, .slice none 0 0] 55)) (hG.below HB0.out)
  have HTD := Aside0.mk (fun (k er : Int) W (h : Below w.heap.size w W) => told_calls k er W (hG.below h))
  have HM : Aside0 (maniP s = match parseP s with | .inr (k, er) => (z55, (k : Int), er) | .inl (x, n) => (manOf x, (n : Int), 0)) := ⟨rfl⟩
  generalize maniP s = mm at HM ⊢
  clear hG
  cases hp : parseP s with
  | inr kr =>
    obtain ⟨k, er⟩ := kr
    rw [hp] at hpa HM
    have HPA := Aside0.mk (show Calls Tryz.prog 48 #[.string s] (w.alloc (.cells #[.string ⟨#[]⟩, .string ⟨#[]⟩, .slice none 0 0, .slice none 0 0, .slice none 0 0, .slice none 0 0] 55)) fun e w' => Below (w.alloc (.cells #[.string ⟨#[]⟩, .string ⟨#[]⟩, .slice none 0 0, .slice none 0 0, .slice none 0 0, .slice none 0 0] 55)).heap.size (w.alloc (.cells #[.string ⟨#[]⟩, .string ⟨#[]⟩, .slice none 0 0, .slice none 0 0, .slice none 0 0, .slice none 0 0] 55)) w' ∧ e = .returned (.tuple #[.pointer none, .int .i64 0, .iface 138 (.agg (plv k er))]) from hpa)
    replace HTD := Aside0.mk (HTD.out k er)
    clear hpa hp
    go_enter Tryz.func27, Tryz.ntmps27
    go_wp2_with (first | (go_at_call 48; with_reducible refine HPA.out.mono ?_; rintro e W1 ⟨hb, rfl⟩; have HB1 := Aside0.mk (below_step HB0.out hb); have HR1 := Aside0.mk (blk_below HR0.out hb); clear hb) | (go_at_call 49; with_reducible refine (HTD.out _ HB1.out).mono ?_; rintro e W2 ⟨rfl, hb⟩; have HB2 := Aside0.mk (below_step HB1.out hb); have HR2 := Aside0.mk (blk_below HR1.out hb); clear hb) | ((with_reducible refine gate_ (.store 55 (.tmp 2) (.tmp 23)) rfl ?_); refine store_ev 55 (.tmp 2) (.tmp 23) rfl rfl rfl 0 (#[.string ⟨#[]⟩, .string ⟨#[]⟩, .slice none 0 0, .slice none 0 0, .slice none 0 0, .slice none 0 0]).toList HR2.out rfl rfl rfl (by kernel_rfl) (show 0 + 6 ≤ 6 by decide) (by simp [Value.oneCell']) rfl ?_; intro W3 hn hg; have HR3 := Aside0.mk hn; have HB3 := Aside0.mk (HB2.out.grown hg HB2.out.size (fun k hk => by cases hk; exact Nat.le_refl _)); clear hn hg))
    refine bodyPost_ret (results_ctt rfl _ _ w.heap.size 55 #[.string ⟨#[]⟩, .string ⟨#[]⟩, .slice none 0 0, .slice none 0 0, .slice none 0 0, .slice none 0 0] (0, 0) _ rfl HR3.out Tryz.underlying55 rfl (by kernel_rfl)) rfl ?_
    rw [HM.out]
    exact ⟨_, _, _, _, rfl, MnMade.zero _ _, HB3.out⟩
  | inl xn =>
    obtain ⟨x, n⟩ := xn
    rw [hp] at hpa HM
    have HPA := Aside0.mk (show Calls Tryz.prog 48 #[.string s] (w.alloc (.cells #[.string ⟨#[]⟩, .string ⟨#[]⟩, .slice none 0 0, .slice none 0 0, .slice none 0 0, .slice none 0 0] 55)) fun e w' => Below (w.alloc (.cells #[.string ⟨#[]⟩, .string ⟨#[]⟩, .slice none 0 0, .slice none 0 0, .slice none 0 0, .slice none 0 0] 55)).heap.size (w.alloc (.cells #[.string ⟨#[]⟩, .string ⟨#[]⟩, .slice none 0 0, .slice none 0 0, .slice none 0 0, .slice none 0 0] 55)) w' ∧ ∃ w1 P p, e = .returned (.tuple #[.pointer (some ⟨P, 0, none⟩), .int .i64 n, .nilIface]) ∧ PsIs (w.alloc (.cells #[.string ⟨#[]⟩, .string ⟨#[]⟩, .slice none 0 0, .slice none 0 0, .slice none 0 0, .slice none 0 0] 55)) w1 P p x w' from hpa)
    clear hpa hp HTD
    go_enter Tryz.func27, Tryz.ntmps27
    go_wp2_with (first | (go_at_call 48; with_reducible refine HPA.out.mono ?_; rintro e W1 ⟨hb, w1, P, p, rfl, hI⟩; have HI := Aside0.mk hI; have HB1 := Aside0.mk (below_step HB0.out hb); have HR1 := Aside0.mk (blk_below HR0.out hb); clear hb hI) | ((with_reducible refine gate_ (.load 55 (.tmp 28)) rfl ?_); refine load_mid_ev (i := 0) rfl rfl rfl HI.out.blk (seg := (#[.string x.mod, .string x.rel, p.v2, p.v3, p.v4, p.v5]).toList) rfl Tryz.underlying55 rfl (by kernel_rfl) ?_) | ((with_reducible refine gate_ (.store 55 (.tmp 2) (.tmp 29)) rfl ?_); refine store_ev 55 (.tmp 2) (.tmp 29) rfl rfl rfl 0 (#[.string x.mod, .string x.rel, p.v2, p.v3, p.v4, p.v5]).toList HR1.out rfl rfl rfl (by kernel_rfl) (show 0 + 6 ≤ 6 by decide) (one_mc HI.out) rfl ?_; intro W3 hn hg; have HR3 := Aside0.mk hn; have HB3 := Aside0.mk (HB1.out.grown hg HB1.out.size (fun k hk => by cases hk; exact Nat.le_refl _)); have HG3 := Aside0.mk hg; clear hn hg))
    refine bodyPost_ret (results_ctt rfl _ _ w.heap.size 55 #[.string x.mod, .string x.rel, p.v2, p.v3, p.v4, p.v5] (0, 0) _ rfl HR3.out Tryz.underlying55 rfl (by kernel_rfl)) rfl ?_
    rw [HM.out]
    have hsz : (w.alloc (.cells #[.string ⟨#[]⟩, .string ⟨#[]⟩, .slice none 0 0, .slice none 0 0, .slice none 0 0, .slice none 0 0] 55)).heap.size = w.heap.size + 1 := by simp
    exact ⟨_, _, _, _, rfl, ((HI.out.made (Nat.le_refl _)).grown HG3.out (by rw [hsz]; exact Nat.lt_succ_self _)).lower (by rw [hsz]; exact Nat.le_succ _), HB3.out⟩
/-- Where: the place of a path's version, and whether there is one. -/
def whereP (s path : ByteArray) : Int × Int × Bool := match parseP s with
  | .inr _ => (0, 0, false)
  | .inl (x, _) => match x.reqs.find? (fun r => r.f0.toList == path.toList) with
    | none => (0, 0, false)
    | some r => ((x.spots path.data.toList).getD 0, (x.spots path.data.toList).getD 0 + ((txV r.f1).size : Int), true)
theorem find_idx {α : Type} (p : α → Bool) : ∀ (l : List α) (n : Nat), (l.find? p = none ∧ idxFrom p n l = -1) ∨ ∃ k y, l[k]? = some y ∧ p y = true ∧ l.find? p = some y ∧ idxFrom p n l = ((n + k : Nat) : Int)
  | [], n => .inl ⟨rfl, rfl⟩
  | y :: l, n => by
    cases h : p y with
    | true => exact .inr ⟨0, y, rfl, h, by rw [List.find?_cons, h], by rw [idxFrom, if_pos h]; rfl⟩
    | false =>
      rcases find_idx p l (n + 1) with ⟨h1, h2⟩ | ⟨k, z, h1, h2, h3, h4⟩
      · exact .inl ⟨by rw [List.find?_cons, h]; exact h1, by rw [idxFrom, h, if_neg Bool.false_ne_true]; exact h2⟩
      · exact .inr ⟨k + 1, z, h1, h2, by rw [List.find?_cons, h]; exact h3, by rw [idxFrom, h, if_neg Bool.false_ne_true, h4]; congr 1; omega⟩
theorem SpAt.look1 {w : World} {M n : Nat} {b : List UInt8 → Option Int} (h : SpAt w M n b) (s : ByteArray) (hs : s.size ≤ maxLen) (z : Int) (hz : b s.data.toList = some z) : (Instr.lookup 100 (.map (some M)) (.string s) false).run Tryz.prog w = .ok (.int .i64 z) w := by
  obtain ⟨D, h1, h2⟩ := h.out
  obtain ⟨v, ps, hrun, hv⟩ := h1.lookup spKey Tryz.underlying100 (show (zeroValue 3).run Tryz.prog w = .ok (.int .i64 0) w by kernel_rfl) (spE_mk _) (Go.WideMaps.keyOf_string_mk Tryz.underlying9 hs)
  obtain ⟨y, rfl, hy⟩ := spE_inv hv
  have := h2.val _ z (.held 0) hz
  rw [this] at hy
  rw [hrun, ← DataW.held.inj (Prod.mk.inj hy).1]
theorem where1_calls (x : Rq) (path : ByteArray) (b : Nat) (w : World) (h : w.heap[b]? = some (.cells #[.string path] 9 (0, 0))) : Calls Tryz.prog 51 #[.agg (rqv x), .pointer (some ⟨b, 0, none⟩)] w fun e w' => e = .returned (.bool (x.f0.toList == path.toList)) ∧ Below w.heap.size w w' := by
  have hb := blk_lt h
  have h1 := blk_below h (below_alloc (Below.refl w.heap.size w) (.cells (rqv x) 25))
  have x0 := (blk_cell h1 0).trans rfl
  clear h h1
  go_enter Tryz.func51, Tryz.ntmps51
  go_wp2
  go_ret
  exact ⟨rfl, below_alloc (Below.refl _ _) _⟩
def wh7.T7 : Bool × List (List Nat × List Nat) := (true, [([], []), ([0], [0]), ([1], [1]), ([2], [2]), ([], []), ([3, 4], [3, 4]), ([5, 0, 1, 2, 3, 4, 5], [5])])
def wh7.B7 : List Nat := [0, 1, 3, 7, 0, 31, 63]
theorem wh7.tab7 : rtab .any (opsOf Tryz.f29 7) = wh7.T7 := by kernel_rfl
theorem wh7.bits7 : waitsOk wh7.T7.2 wh7.B7 = true := by kernel_rfl
set_option maxRecDepth 100000 in
set_option maxHeartbeats 4000000 in
theorem where_calls (s path : ByteArray) (hs : s.size ≤ 400000) (hps : path.size ≤ 400000) (w : World) (hG : GW w) : Calls Tryz.prog 29 #[.string s, .string path] w fun e w' => e = .returned (.tuple #[.int .i64 (whereP s path).1, .int .i64 (whereP s path).2.1, .bool (whereP s path).2.2]) ∧ Below w.heap.size w w' := by
  have HB0 := Aside0.mk (below_alloc (Below.refl w.heap.size w) (.cells #[.string path] 9))
  have HP0 := Aside0.mk (heap_alloc_new w (.cells #[.string path] 9))
  have hpa := parse_calls s hs (w.alloc (.cells #[.string path] 9)) (hG.below HB0.out)
  have hrl := rowsW_len s
  have hinv := fun x n h => parseP_inv (Q := PsB) (s := s) (x := x) (n := n) h PsB.zero (fun t ht k y hq _ => hq.line t (Nat.le_trans (rowsW_size ht) hs))
  have HM : Aside0 (whereP s path = match parseP s with | .inr _ => (0, 0, false) | .inl (x, _) => match x.reqs.find? (fun r => r.f0.toList == path.toList) with | none => (0, 0, false) | some r => ((x.spots path.data.toList).getD 0, (x.spots path.data.toList).getD 0 + ((txV r.f1).size : Int), true)) := ⟨rfl⟩
  generalize whereP s path = mm at HM ⊢
  have HPS : Aside0 (path.size ≤ maxLen) := ⟨by unfold maxLen; omega⟩
  have hmf : ∀ (fn : Fn) (first cap : Array Value) (w : World), (Instr.makeFunc fn first cap).run Tryz.prog w = .ok (.func fn first cap) w := fun _ _ _ _ => rfl
  cases hp : parseP s with
  | inr kr =>
    obtain ⟨k, er⟩ := kr
    rw [hp] at hpa HM
    have HPA := Aside0.mk (show Calls Tryz.prog 48 #[.string s] (w.alloc (.cells #[.string path] 9)) fun e w' => Below (w.alloc (.cells #[.string path] 9)).heap.size (w.alloc (.cells #[.string path] 9)) w' ∧ e = .returned (.tuple #[.pointer none, .int .i64 0, .iface 138 (.agg (plv k er))]) from hpa)
    clear hpa hp hinv hG
    go_enter Tryz.func29, Tryz.ntmps29
    go_wp2_with (go_at_call 48; with_reducible refine HPA.out.mono ?_; rintro e W1 ⟨hb, rfl⟩; have HB1 := Aside0.mk (below_step HB0.out hb); have HP1 := Aside0.mk (blk_below HP0.out hb); clear hb)
    go_ret3
    exact ⟨by rw [HM.out]; rfl, HB1.out⟩
  | inl xn =>
    obtain ⟨x, n⟩ := xn
    obtain ⟨hPB, hn, _⟩ := hinv x n hp
    rw [hp] at hpa HM
    replace HM : Aside0 (mm = match x.reqs.find? (fun r => r.f0.toList == path.toList) with | none => (0, 0, false) | some r => ((x.spots path.data.toList).getD 0, (x.spots path.data.toList).getD 0 + ((txV r.f1).size : Int), true)) := HM
    have HPA := Aside0.mk (show Calls Tryz.prog 48 #[.string s] (w.alloc (.cells #[.string path] 9)) fun e w' => Below (w.alloc (.cells #[.string path] 9)).heap.size (w.alloc (.cells #[.string path] 9)) w' ∧ ∃ w1 P p, e = .returned (.tuple #[.pointer (some ⟨P, 0, none⟩), .int .i64 n, .nilIface]) ∧ PsIs (w.alloc (.cells #[.string path] 9)) w1 P p x w' from hpa)
    have HIX := Aside0.mk (fun (W : World) (A3 : Option Addr) (c3 : Nat) (hc : Kd.C k25 W A3 x.reqs.length x.reqs) {b : Nat} (hX : W.heap[b]? = some (.cells #[.string path] 9 (0, 0))) => IndexFunc_Req A3 c3 x.reqs (fun y : Rq => y.f0.toList == path.toList) 51 #[.pointer (some ⟨b, 0, none⟩)] (enters_of Tryz.func51 (by kernel_rfl) rfl) W hc (fun j y hy W' hb cs hK => by
      obtain rfl := k25_open hK
      exact where1_calls y path b W' (blk_below hX hb)))
    clear hpa hinv
    rcases find_idx (fun r : Rq => r.f0.toList == path.toList) x.reqs 0 with ⟨h1, h2⟩ | ⟨i, r, h1, h2, h3, h4⟩
    · rw [h1] at HM
      rw [h2] at HIX
      clear h1 h2 hp hG hPB hn
      go_enter Tryz.func29, Tryz.ntmps29
      go_wp2_with (first | (go_at_call 48; with_reducible refine HPA.out.mono ?_; rintro e W1 ⟨hb, w1, P, p, rfl, hI⟩; have HI := Aside0.mk hI; have HB1 := Aside0.mk (below_step HB0.out hb); have HP1 := Aside0.mk (blk_below HP0.out hb); obtain ⟨A2, c2, hv2⟩ := Kd.R_slice hI.o2; have q2 : W1.cell? ⟨P, 2, none⟩ = some (.slice A2 x.reqs.length c2) := hI.cells.2.2.1.trans (congrArg some hv2); clear hb hI) | (go_at_call 50; refine (HIX.out W1 A2 c2 (Kd.R_reads' (hv2 ▸ HI.out.o2)).2.2 HP1.out).mono ?_; rintro e W2 ⟨rfl, hb⟩; have HI2 := Aside0.mk (HI.out.step hb); have HP2 := Aside0.mk (blk_below HP1.out hb); have HB2 := Aside0.mk (below_step HB1.out hb); clear hb))
      go_ret3
      exact ⟨by rw [HM.out]; rfl, HB2.out⟩
    · rw [h3] at HM
      rw [h4, Nat.zero_add] at HIX
      obtain ⟨z, hz⟩ := Option.isSome_iff_exists.1 (hPB.has r (List.mem_of_getElem? h1))
      have hrp : r.f0.data.toList = path.data.toList := by
        have h := eq_of_beq h2
        rwa [ByteArray.toList_eq, ByteArray.toList_eq] at h
      rw [hrp] at hz
      have hzb := hPB.spot _ z hz
      have hkb : ((rowsW s).length : Int) * 400001 ≤ 400001 * 400001 := Int.mul_le_mul_of_nonneg_right (by omega) (by decide)
      have htx := txV_size r.f1
      have hwr : IntKind.i64.wrap (z + ((txV r.f1).size : Int)) = z + ((txV r.f1).size : Int) := by rw [IntKind.wrap_i64]; omega
      replace HM : Aside0 (mm = ((x.spots path.data.toList).getD 0, (x.spots path.data.toList).getD 0 + ((txV r.f1).size : Int), true)) := HM
      rw [hz] at HM
      have hil := (List.getElem?_eq_some_iff.1 h1).1
      have hi0 : (0 : Int) ≤ (i : Int) := by omega
      have hi1 : (i : Int) < (x.reqs.length : Int) := by omega
      have hin : ¬ (i : Int) < 0 := by omega
      have HZ := Aside0.mk hz
      have HX := Aside0.mk h1
      have HTX := Aside0.mk (fun W (h : Below w.heap.size w W) => show Calls Tryz.prog 36 #[.agg (vrv r.f1)] W fun e w' => e = .returned (.string (txV r.f1)) ∧ Below W.heap.size W w' from text_calls r.f1.f0 r.f1.f1 r.f1.f2 r.f1.f3 r.f1.f4 W (hG.below h))
      generalize txV r.f1 = tv at HTX hwr HM
      clear h1 h2 h3 h4 hp hG hPB hn hz hzb hkb htx hrl hrp hil
      go_enter Tryz.func29, Tryz.ntmps29
      go_wp2_with (first | (go_at_call 48; with_reducible refine HPA.out.mono ?_; rintro e W1 ⟨hb, w1, P, p, rfl, hI⟩; have HI := Aside0.mk hI; have HB1 := Aside0.mk (below_step HB0.out hb); have HP1 := Aside0.mk (blk_below HP0.out hb); obtain ⟨A2, c2, hv2⟩ := Kd.R_slice hI.o2; have q2 : W1.cell? ⟨P, 2, none⟩ = some (.slice A2 x.reqs.length c2) := hI.cells.2.2.1.trans (congrArg some hv2); clear hb hI) | (go_at_call 50; refine (HIX.out W1 A2 c2 (Kd.R_reads' (hv2 ▸ HI.out.o2)).2.2 HP1.out).mono ?_; rintro e W2 ⟨rfl, hb⟩; have HI2 := Aside0.mk (HI.out.step hb); have HP2 := Aside0.mk (blk_below HP1.out hb); have HB2 := Aside0.mk (below_step HB1.out hb); clear hb))
      have HI3 := Aside0.mk (HI2.out.step (below_drew1 (Below.refl _ _)))
      have HP3 := Aside0.mk (blk_drew HP2.out)
      have HB3 := Aside0.mk (below_step HB2.out (below_drew1 (Below.refl _ _)))
      refine sX (ds := []) (S := fun w' => w'.cell? ⟨P, 8, none⟩ = some (.map (some p.m)) ∧ w'.cell? ⟨w.heap.size, 0, none⟩ = some (.string path) ∧ (Instr.lookup 100 (.map (some p.m)) (.string path) false).run Tryz.prog w' = .ok (.int .i64 z) w') wh7.tab7 wh7.bits7 ⟨(blk_cell HI3.out.blk 8).trans rfl, (blk_cell HP3.out 0).trans rfl, HI3.out.map.look1 path HPS.out z HZ.out⟩ (fun HT_ HW_ hHeld => ?_)
      generalize W2.drew = W3 at HI3 HP3 HB3 hHeld ⊢
      refine pX HT_ 0 1 29 ?_
      refine pX HT_ 1 3 30 ?_
      refine pX HT_ 2 7 31 ?_
      refine tX HT_ HW_ hHeld 3 15 32 ?_
      refine tX HT_ HW_ hHeld 4 31 33 ?_
      refine tX HT_ HW_ hHeld 5 63 34 ?_
      refine pX HT_ 6 127 11 ?_
      refine eX HT_ ?_
      clear HT_ HW_ hHeld
      have hC3 := (Kd.R_reads' (hv2 ▸ HI3.out.o2)).2.2
      have q3 : W3.cell? ⟨P, 2, none⟩ = some (.slice A2 x.reqs.length c2) := HI3.out.cells.2.2.1.trans (congrArg some hv2)
      obtain ⟨ad, hA, g0, g1, g2, g3, g4, g5⟩ := at_T25 hC3 (i : Int) hi0 hi1
      rw [show rd_T25 x.reqs (i : Int) = r by unfold rd_T25; rw [Int.toNat_natCast, List.getD_eq_getElem?_getD, HX.out]; rfl, Int.toNat_natCast] at g0 g1 g2 g3 g4 g5
      subst hA
      clear hC3
      go_wp2_with (go_at_call 36; with_reducible refine (HTX.out _ HB3.out).mono ?_; rintro e W4 ⟨rfl, hb⟩; have HB4 := Aside0.mk (below_step HB3.out hb); clear hb)
      go_ret3
      exact ⟨by rw [HM.out]; rfl, HB4.out⟩
end Go.Proofs.YtmbpefnhkimplaaGreatDoor
end
