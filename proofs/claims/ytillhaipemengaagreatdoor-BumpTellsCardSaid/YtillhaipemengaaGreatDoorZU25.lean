/- The texts BpRls in one file, without what these claims do not use (put together by prune2.py). -/
import Derived.Test.YtillhaipemengaaGreatDoorZU23
import Derived.Test.YtillhaipemengaaGreatDoorZU24
import Derived.Maps.OwnIn
section
namespace Go.Proofs.YtillhaipemengaaGreatDoor
open Go Go.RowKit Go.Sort Go.Shelf Go.Proofs Go.Proofs.YtillhaipemengaaGreatDoorW.PrintWords Go.Proofs.YtillhaipemengaaGreatDoorW.PrintLast Go.Proofs.YtillhaipemengaaGreatDoor.K0
attribute [local go_sem] Oper.semAt_some
set_option linter.unusedVariables false
set_option linter.unusedSimpArgs false
theorem results_two {P : Program} {fn : Func} {tmps : Array Value} {w : World} {p q : Tmp} {ty tz : TypeId} {a b : Addr} {v u : Value} (h : fn.results = #[.cell p ty, .cell q tz]) (hp : tmps.getD p undef = .pointer (some a)) (hq : tmps.getD q undef = .pointer (some b))
    (ha : ∀ w, (isAgg ty).run P w = .ok false w) (hb : ∀ w, (isAgg tz).run P w = .ok false w) (hc : w.cell? a = some v) (hd : w.cell? b = some u) : (results fn tmps).run P w = .ok (.tuple #[v, u]) w := by
  have hp' : tmps[p]?.getD undef = .pointer (some a) := by simpa using hp
  have hq' : tmps[q]?.getD undef = .pointer (some b) := by simpa using hq
  have hl : (loadVar ty a).run P w = .ok v w := by simp [loadVar, go_sem, ha, hc, Result.andThen]
  have hm : (loadVar tz b).run P w = .ok u w := by simp [loadVar, go_sem, hb, hd, Result.andThen]
  simp [results, h, hp', hq', asAddr, hl, hm]
/-- Releases' own results. -/
structure RsIs (w : World) (v u : Value) (W : World) : Prop where
  base : Below w.heap.size w W
  r : W.heap[w.heap.size]? = some (.cells #[v] 45 (0, 0))
  e : W.heap[w.heap.size + 1]? = some (.cells #[u] 31 (0, 0))
theorem RsIs.step {w W W' : World} {v u : Value} (h : RsIs w v u W) (hb : Below W.heap.size W W') : RsIs w v u W' := ⟨below_step h.base hb, blk_below h.r hb, blk_below h.e hb⟩
theorem RsIs.grown {w W W' : World} {v u : Value} {k : Option Nat} (h : RsIs w v u W) (hg : W.grownBy W' k) (hk : ∀ b, k = some b → w.heap.size + 1 < b) : RsIs w v u W' :=
  ⟨h.base.grown hg h.base.size (fun b hb => by have := hk b hb; omega), blk_grown h.r hg (fun e => by have := hk _ e.symm; omega), blk_grown h.e hg (fun e => by have := hk _ e.symm; omega)⟩
theorem RsIs.putR {w W W' : World} {v u v' : Value} (h : RsIs w v u W) (hg : W.grownBy W' (some w.heap.size)) (hr : W'.heap[w.heap.size]? = some (.cells #[v'] 45 (0, 0))) : RsIs w v' u W' :=
  ⟨h.base.grown hg h.base.size (fun b hb => by cases hb; omega), hr, blk_grown h.e hg (fun e => by injection e with e; omega)⟩
theorem RsIs.putE {w W W' : World} {v u u' : Value} (h : RsIs w v u W) (hg : W.grownBy W' (some (w.heap.size + 1))) (hr : W'.heap[w.heap.size + 1]? = some (.cells #[u'] 31 (0, 0))) : RsIs w v u' W' :=
  ⟨h.base.grown hg h.base.size (fun b hb => by cases hb; omega), blk_grown h.r hg (fun e => by injection e with e; omega), hr⟩
theorem R_appendIn {α : Type} {F : Fence} {n : Nat} {P : Program} {ops : Array Oper} {rest : List Oper} {o : Oper} {a : Act} {Q : Exit → Act → World → Prop} (d : Kd α) {W : World} (base : Nat) (hgd : o.guard = none) (s x : Operand) (t e : TypeId) (z : Value) (bytes : Nat)
    (ho : o.op = .call { callee := .builtin .append, args := #[s, x], argTypes := #[t, t] }) (ht : P.underlying t = some (.slice e)) (hinfo : (P.info? e).map (fun i => (i.zero, i.size, i.bytes)) = some (some z, d.sz, bytes)) (hz : z.cells.size = d.sz) (hs0 : 0 < d.sz) (hb0 : 0 < bytes)
    (v : Value) (xs : List α) (p : α) (cs : List Value) (ok okp : Nat → Prop) (hs : a.eval s = v) (hx : a.eval x = .slice (some ⟨W.heap.size, 0, none⟩) 1 1) (hp : d.M W base okp p cs) (hokp : ∀ k, okp k → ok k ∧ some k ≠ v.ownBlock) (hfresh : ∀ k, W.heap.size ≤ k → ok k)
    (HO : d.R e W base ok v xs) (hbase : base ≤ W.heap.size) (hl : (xs.length + 1) * bytes ≤ 140737488355328)
    (h : ∀ v1 w1, d.R e w1 base ok v1 (xs ++ [p]) → W.grownBy w1 v.ownBlock → wpListIn F n P ops Q rest (a.put o.dst v1) w1) : wpListIn F n P ops Q (o :: rest) a (W.alloc (.cells cs.toArray e)) := by
  obtain ⟨h0, inner, hown, hr⟩ := HO
  obtain ⟨i0, hi, hzz⟩ := Option.map_eq_some_iff.1 hinfo
  simp only [Prod.mk.injEq] at hzz
  have hc := d.K_len (d.K_of_M hp)
  refine wpListIn_append_own_at (W.alloc (.cells cs.toArray e)) hgd s x t ho base e i0 z d.sz bytes ht hi hzz.1 hzz.2.1 hzz.2.2 hz hs0 v xs.length inner hs (hown.alloc _) ⟨W.heap.size, 0, none⟩ 1 1 cs hx (by rw [hc, Nat.one_mul])
    (by simpa using World.news_of_block (cs := cs.toArray) (t := e) (fr := (0, 0)) (heap_alloc_new W (.cells cs.toArray e))) (d.K_one (d.K_of_M hp)) (by
      have := Nat.le_trans (Nat.le_mul_of_pos_right (xs.length + 1) hb0) hl
      simp only [maxLen]; omega) hl (by rw [World.size_alloc]; omega) ?_
  intro v1 w1 hown1 hg _ hat
  have hg' := World.grownBy.trans (World.grownBy_alloc W _ _) hg
  refine h v1 w1 (Kd.R_appended h0 hr hp hokp hfresh hown1 hg' ?_) hg'
  rcases hat with hat | hat
  · exact .inl hat
  · exact .inr ⟨_, hat, by simp⟩
theorem relGo_stop {f : Int → Rl × Int} : ∀ {zs : List Int} {acc : List Rl} {pre : List (Rl × Int)} {x : Rl × Int}, pre ++ [x] <+: zs.map f → (∀ y ∈ pre, y.2 = 0) → x.2 ≠ 0 → relGo f zs acc = ([], x.2)
  | [], acc, pre, x, h, _, _ => by simp at h
  | z :: zs, acc, [], x, h, _, hx => by
    obtain ⟨t, ht⟩ := h
    have e : x = f z := by simpa using (List.cons.inj ht).1
    unfold relGo
    rw [← e, if_neg hx]
  | z :: zs, acc, y :: pre, x, h, hp, hx => by
    obtain ⟨t, ht⟩ := h
    have e : y = f z := by simpa using (List.cons.inj ht).1
    have h2 : pre ++ [x] ++ t = zs.map f := by simpa using (List.cons.inj ht).2
    unfold relGo
    rw [← e, if_pos (hp y List.mem_cons_self)]
    exact relGo_stop ⟨t, h2⟩ (fun u hu => hp u (List.mem_cons_of_mem _ hu)) hx
theorem relGo_full {f : Int → Rl × Int} {zs : List Int} (h : ∀ y ∈ zs.map f, y.2 = 0) : relGo f zs [] = ((zs.map f).map (·.1), 0) := by
  rw [relGo_all fun z hz => h _ (List.mem_map.2 ⟨z, hz, rfl⟩), List.nil_append, List.map_map]
  rfl
theorem moves_grown {may : Nat → Prop} {A B : World} {k : Option Nat} (h : A.grownBy B k) (hk : ∀ b, k = some b → may b) : Moves may A B :=
  ⟨h.size, fun i hi hm => h.block i hi (fun e => hm (hk i e.symm)), h.os, h.tape, h.output⟩
/-- What holds between the rounds of Releases' range. -/
structure RiIs (w : World) (B : Nat) (bo : Nat) (pre : List (Rl × Int)) (W : World) : Prop where
  s : RsIs w (.slice none 0 0) (.int .i64 0) W
  zero : ∀ y ∈ pre, y.2 = 0
  out : ∃ v, W.heap[bo]? = some (.cells #[v] 45 (0, 0)) ∧ Kd.R k30 30 W B (fun k => B ≤ k) v (pre.map (·.1))
theorem RiIs.moves {w W W' : World} {B bo : Nat} {pre : List (Rl × Int)} {p : Nat → Prop} (h : RiIs w B bo pre W) (hm : Moves p W W') (h1 : ∀ k, p k → w.heap.size + 1 < k ∧ k < B ∧ k ≠ bo) : RiIs w B bo pre W' := by
  obtain ⟨s, z, v, ho, hr⟩ := h
  refine ⟨⟨below_moves s.base (Nat.le_refl _) hm (fun k hk => by have := h1 k hk; omega), (hm.block _ (blk_lt s.r) (fun e => by have := h1 _ e; omega)).trans s.r, (hm.block _ (blk_lt s.e) (fun e => by have := h1 _ e; omega)).trans s.e⟩, z, v, (hm.block _ (blk_lt ho) (fun e => (h1 _ e).2.2 rfl)).trans ho, ?_⟩
  exact Kd.R_step hr (fun k hk hlt => hm.block k hlt (fun e => by have := h1 _ e; omega))
/-- A post without panics. -/
def noPanic (Q : Exit → Act → World → Prop) : Exit → Act → World → Prop
  | .panic _, _, _ => False
  | .normal, a, w => Q .normal a w
  | .ret, a, w => Q .ret a w
  | .exit i, a, w => Q (.exit i) a w
  | .goto i, a, w => Q (.goto i) a w
  | .outgrown, a, w => Q .outgrown a w
theorem noPanic_le {Q : Exit → Act → World → Prop} (e : Exit) (a : Act) (w : World) (h : noPanic Q e a w) : Q e a w := by
  cases e <;> first | exact h | exact h.elim
def rls.T15 : Bool × List (List Nat × List Nat) := (true, [([], []), ([], []), ([], []), ([], []), ([2, 3], [2, 3]), ([0, 1, 4, 4], [0, 1, 4])])
def rls.B15 : List Nat := [0, 0, 0, 0, 12, 31]
theorem rls.tab15 : rtab .any (opsOf Tryz.f15 15) = rls.T15 := by kernel_rfl
theorem rls.bits15 : waitsOk rls.T15.2 rls.B15 = true := by kernel_rfl
theorem released_calls (A0 A1 A3 Ao Au : Option Addr) (n0 c0 n1 c1 n3 c3 no co nu cu : Nat) (w : World) :
    Calls Tryz.prog 43 #[.agg (plc A0 A1 A3 n0 c0 n1 c1 n3 c3), .slice Ao no co, .slice Au nu cu] w fun e w' => e = .returned (.func (.func 81) #[] #[.pointer (some ⟨w.heap.size + 1, 0, none⟩), .pointer (some ⟨w.heap.size + 1 + 1, 0, none⟩), .pointer (some ⟨w.heap.size, 0, none⟩)]) ∧
      w' = ((w.alloc (.cells (plc A0 A1 A3 n0 c0 n1 c1 n3 c3) 86)).alloc (.cells #[.slice Ao no co] 39)).alloc (.cells #[.slice Au nu cu] 39) := by
  have hmf : ∀ (fn : Fn) (first cap : Array Value) (w : World), (Instr.makeFunc fn first cap).run Tryz.prog w = .ok (.func fn first cap) w := fun _ _ _ _ => rfl
  go_enter Tryz.func43, Tryz.ntmps43
  go_wp2
  go_ret
  exact ⟨rfl, rfl⟩
theorem cell_same {W W' : World} {p : Addr} {v : Value} (h : W.cell? p = some v) (hs : W'.heap[p.block]? = W.heap[p.block]?) : W'.cell? p = some v := (World.cell?_of_block (w := W) hs).trans h
theorem var_same {P : Program} {w W : World} {nm : String} {cs : Array Value} (hs : ∀ k, k < w.heap.size → W.heap[k]? = w.heap[k]?) (h : w.var? P nm = some cs) : W.var? P nm = some cs := by
  cases hg : P.globalNamed nm with
  | none => simp [World.var?, hg] at h
  | some g =>
    have hlt : g < w.heap.size := by
      unfold World.var? at h
      rw [hg] at h
      simp only [Option.bind_some] at h
      cases hh : w.heap[g]? with
      | none => rw [hh] at h; cases h
      | some o => exact (Array.getElem?_eq_some_iff.1 hh).1
    unfold World.var? at h ⊢
    rw [hg] at h ⊢
    simp only [Option.bind_some] at h ⊢
    rw [hs g hlt]; exact h
theorem GW.same {w W : World} (h : GW w) (hs : ∀ k, k < w.heap.size → W.heap[k]? = w.heap[k]?) : GW W where
  maxLen := by
    obtain ⟨m, hm⟩ := h.maxLen
    exact ⟨m, cell_same hm (hs _ (World.block_lt_of_cell? w _ hm))⟩
  pow10 := var_same hs h.pow10
  errS := by
    obtain ⟨tp, p, hv⟩ := h.errS
    exact ⟨tp, p, var_same hs hv⟩
  errR := by
    obtain ⟨tp, p, hv⟩ := h.errR
    exact ⟨tp, p, var_same hs hv⟩
/-- .. and the planner's. -/
structure RlIs (w : World) (pc : Array Value) (bp : Nat) (W : World) : Prop where
  s : RsIs w (.slice none 0 0) (.int .i64 0) W
  lt : w.heap.size + 1 < bp
  p : W.heap[bp]? = some (.cells pc 86 (0, 0))
theorem RlIs.step {w W W' : World} {pc : Array Value} {bp : Nat} (h : RlIs w pc bp W) (hb : Below W.heap.size W W') : RlIs w pc bp W' := ⟨h.s.step hb, h.lt, blk_below h.p hb⟩
theorem RlIs.grown {w W W' : World} {pc : Array Value} {bp : Nat} {k : Option Nat} (h : RlIs w pc bp W) (hg : W.grownBy W' k) (hk : ∀ b, k = some b → bp < b) : RlIs w pc bp W' :=
  ⟨h.s.grown hg (fun b hb => by have := hk b hb; have := h.lt; omega), h.lt, blk_grown h.p hg (fun e => by have := hk _ e.symm; omega)⟩
theorem want_bad {l : List Md} {ws : List Wt} {ch fr : List Int} {k : Nat} {x : Wt} (hp : wantGo l ws 0 ws ch = wantGo l ws k (ws.drop k) fr) (hx : ws[k]? = some x) : wantGo l ws 0 ws ch = if wantBad l ws k x = 0 then wantGo l ws (k + 1) (ws.drop (k + 1)) (fr ++ [placeOf l x.f0]) else ([], wantBad l ws k x) := by
  obtain ⟨hk, e⟩ := List.getElem?_eq_some_iff.1 hx
  rw [hp, List.drop_eq_getElem_cons hk, e]
  rfl
theorem rel_bad {l : List Md} {tg : List Tg} {ws : List Wt} {ch : List Int} {e : Int} (h1 : (ordG l).2 = 0) (h2 : wantGo l ws 0 ws ch = ([], e)) (he : e ≠ 0) : relOf l tg ch ws = ([], e) := by
  unfold relOf
  rw [if_pos h1, h2, if_neg he]
theorem rel_fine {l : List Md} {tg : List Tg} {ws : List Wt} {ch fr : List Int} (h1 : (ordG l).2 = 0) (h2 : wantGo l ws 0 ws ch = (fr, 0)) : relOf l tg ch ws = relGo (relAt l tg ws) ((ordG l).1.filter fun z => (upG l fr).contains z) [] := by
  unfold relOf upsOf
  rw [if_pos h1, h2, if_pos rfl]
set_option maxRecDepth 100000 in
set_option maxHeartbeats 1000000 in
theorem releases_calls (A0 A1 A2 A3 : Option Addr) (c0 c1 c2 c3 : Nat) (l : List Md) (tg : List Tg) (ch : List Int) (ws : List Wt) (w : World) (hG : GW w) (hr0 : Kd.C k63 w A0 l.length l) (hc0 : l.length ≤ c0) (hr1 : Kd.C k71 w A1 tg.length tg) (hc1 : tg.length ≤ c1) (hr2 : Kd.C (Kd.int .i64) w A2 ch.length ch) (hc2 : ch.length ≤ c2) (hr3 : Kd.C k72 w A3 ws.length ws) (hc3 : ws.length ≤ c3)
    (hl : l.length ≤ 4294967290) (ht : tg.length ≤ 4294967280) (hch : ch.length ≤ 1000000000) (hws : ws.length ≤ 1000000000) :
    Calls Tryz.prog 15 #[.slice A0 l.length c0, .slice A1 tg.length c1, .slice A2 ch.length c2, .slice A3 ws.length c3] w fun e w' => ∃ v0_ : Value, e = .returned (.tuple #[v0_, .int .i64 (relOf l tg ch ws).2]) ∧ Kd.R k30 30 w' w.heap.size (fun _ => True) v0_ (relOf l tg ch ws).1 ∧ Below w.heap.size w w' := by
  have HORD := Aside0.mk (fun (W : World) (hb : Below w.heap.size w W) => graph_Order.calls A0 c0 l (ordG l).1 (ordG l).2 W (Kd.C_below hr0 hb) hc0 (hG.below hb) (by unfold graph_Order.f; rw [if_pos hl]))
  obtain ⟨ro, hro⟩ : ∃ ro, relOf l tg ch ws = ro := ⟨_, rfl⟩
  rw [hro]
  have HRO := Aside0.mk hro
  obtain ⟨W1, hW1⟩ : ∃ W1, (w.alloc (.cells #[.slice none 0 0] 45)).alloc (.cells #[.int .i64 0] 31) = W1 := ⟨_, rfl⟩
  have HS1 := Aside0.mk (show RsIs w (.slice none 0 0) (.int .i64 0) W1 from ⟨by rw [← hW1]; exact below_alloc (below_alloc (Below.refl _ _) _) _, by rw [← hW1]; exact blk_alloc (heap_alloc_new w _) _, by
    rw [← hW1]
    have h := heap_alloc_new (w.alloc (.cells #[.slice none 0 0] 45)) (.cells #[.int .i64 0] 31)
    rw [show (w.alloc (.cells #[.slice none 0 0] 45)).heap.size = w.heap.size + 1 by simp] at h
    exact h⟩)
  by_cases he : (ordG l).2 = 0
  · have hin := fun (z : Int) (hz : z ∈ (ordG l).1) => (ord_mem he).1 hz
    have hol := (ord_ok he).2.1
    have holl := (ord_ok he).2.2.2
    have hRF := fun fr (h : wantGo l ws 0 ws ch = (fr, 0)) => rel_fine (tg := tg) he h
    have hRB := fun e (h : wantGo l ws 0 ws ch = ([], e)) (h2 : e ≠ 0) => rel_bad (tg := tg) he h h2
    rw [hro] at hRF hRB
    have HIN := Aside0.mk hin
    have HRF := Aside0.mk hRF
    have HRB := Aside0.mk hRB
    have hlen12 : (ordG l).1.length ≤ 12 := by omega
    rw [he] at HORD
    obtain ⟨ol, hoe⟩ : ∃ ol, (ordG l).1 = ol := ⟨_, rfl⟩
    rw [hoe] at HORD HIN HRF hlen12
    have HCK := Aside0.mk (fun (k : Nat) (x : Wt) (hx : ws[k]? = some x) (W : World) (hb : Below w.heap.size w W) => check_calls A0 A1 A3 c0 tg.length c1 c3 l ws k x W (Kd.C_below hr0 hb) (Kd.C_below hr3 hb) hc3 hx)
    have HPL := Aside0.mk (fun (p : ByteArray) (W : World) (hb : Below w.heap.size w W) => place_calls A0 A1 A3 c0 tg.length c1 ws.length c3 l p W (Kd.C_below hr0 hb))
    have HCL := Aside0.mk (fun (W : World) (hb : Below w.heap.size w W) => slices_Clone.calls A2 c2 ch ch W (Kd.C_below hr2 hb) hc2 (by unfold slices_Clone.f; rw [if_pos (by omega)]))
    have HUP := Aside0.mk (fun (Af : Option Addr) (cf : Nat) (fr : List Int) (W : World) (hb : Below w.heap.size w W) (hf : Kd.C (Kd.int .i64) W Af fr.length fr) (hcf : fr.length ≤ cf) => graph_Up.calls A0 c0 l Af cf fr (upG l fr) W (Kd.C_below hr0 hb) hc0 hf hcf (hG.below hb) (by unfold graph_Up.f; rw [if_pos hl]))
    have HR3 := Aside0.mk (fun (W : World) (hb : Below w.heap.size w W) => Kd.C_below hr3 hb)
    have HENV := Aside0.mk (fun (W : World) (hs : ∀ k, k < w.heap.size → W.heap[k]? = w.heap[k]?) => (show Kd.C k63 W A0 l.length l ∧ Kd.C k71 W A1 tg.length tg ∧ Kd.C k72 W A3 ws.length ws ∧ GW W from ⟨k63_heap.C hs hr0, k71_heap.C hs hr1, k72_heap.C hs hr3, hG.same hs⟩))
    have HWZ := Aside0.mk (show ∀ (k : Nat) (x : Wt) (fr : List Int), wantGo l ws 0 ws ch = wantGo l ws k (ws.drop k) fr → ws[k]? = some x → wantGo l ws 0 ws ch = if wantBad l ws k x = 0 then wantGo l ws (k + 1) (ws.drop (k + 1)) (fr ++ [placeOf l x.f0]) else ([], wantBad l ws k x) from fun k x fr h hx => want_bad h hx)
    clear hin hRF hRB hro HRO hoe hr1 hr3 holl hol
    refine (callsIn_wide (n := 0)).1 ?_
    refine callsIn_of_wp_marks Tryz.func15 rfl trivial ?_ rfl
    simp only [Tryz.ntmps15, List.size_toArray, List.length_cons, List.length_nil, Nat.reduceAdd, Nat.reduceSub, Array.replicate_succ, Array.replicate_zero, List.push_toArray, List.append_toArray, List.nil_append, List.cons_append]
    refine wpIn_wide.2 ?_
    go_upto_region 1 with fail
    clear hW1
    go_upto_region 6 with (first
      | (go_at_call 39; refine (HORD.out _ HS1.out.base).mono ?_; rintro e W2 ⟨v0, rfl, hR, hb⟩; obtain ⟨Ao, co, rfl⟩ := Kd.R_slice hR; have HS2 := Aside0.mk (HS1.out.step hb); have HO2 := Aside0.mk (Kd.R_mono (Kd.R_lower (Kd.R_bound hR) (Below.size HS1.out.base)) (ok' := fun k => w.heap.size + 1 < k ∧ k < W2.heap.size) (fun k hk => ⟨by have := hk.2.1; have := blk_lt HS1.out.e; omega, hk.2.2.1⟩)); clear hR hb)
      | (go_at_call 40; refine (HCL.out _ (HS2.out.step (below_alloc (Below.refl _ W2) (.cells (plc A0 A1 A3 l.length c0 tg.length c1 ws.length c3) 86))).base).mono ?_; rintro e W3 ⟨v0, rfl, hR, hb⟩; have HI3 := Aside0.mk (show RlIs w (plc A0 A1 A3 l.length c0 tg.length c1 ws.length c3) W2.heap.size W3 from ⟨(HS2.out.step (below_alloc (Below.refl _ W2) (.cells (plc A0 A1 A3 l.length c0 tg.length c1 ws.length c3) 86))).step hb, blk_lt HS2.out.e, blk_below (heap_alloc_new W2 _) hb⟩); have HO3 := Aside0.mk (Kd.R_below (Kd.R_alloc HO2.out (.cells (plc A0 A1 A3 l.length c0 tg.length c1 ws.length c3) 86)) hb); rw [World.size_alloc] at hR; have HF3 := Aside0.mk (Kd.R_mono (Kd.R_bound hR) (ok' := fun k => W2.heap.size < k) (fun k hk => by have := hk.2.1; omega)); clear hR hb))
    generalize W2.heap.size = bp at HI3 HO3 HF3 ⊢
    clear HORD HCL HS1 HS2 HO2
    have HW0 : Aside0 (wantGo l ws 0 ws ch = wantGo l ws 0 (ws.drop 0) (ch ++ (ws.take 0).map fun x => placeOf l x.f0)) := ⟨by rw [List.drop_zero, List.take_zero, List.map_nil, List.append_nil]⟩
    have HF30 : Aside0 (Kd.R (Kd.int .i64) 3 W3 (bp + 1) (fun k => bp < k) v0 (ch ++ (ws.take 0).map fun x => placeOf l x.f0)) := ⟨by rw [List.take_zero, List.map_nil, List.append_nil]; exact HF3.out⟩
    have hwz : (ws.length : Int) ≤ 1000000000 := by omega
    go_wp2
    go_loopg [13, 36] ws.length (fun gg v13 v36 wr => ∃ kk : Nat, kk ≤ ws.length ∧ ws.length - kk ≤ gg ∧ v36 = .int .i64 kk ∧ Aside0 (RlIs w (plc A0 A1 A3 l.length c0 tg.length c1 ws.length c3) bp wr) ∧ Aside0 (Kd.R (Kd.int .i64) 3 wr w.heap.size (fun k => w.heap.size + 1 < k ∧ k < bp) (.slice Ao ol.length co) ol) ∧ Aside0 (Kd.R (Kd.int .i64) 3 wr (bp + 1) (fun k => bp < k) v13 (ch ++ (ws.take kk).map fun x => placeOf l x.f0)) ∧ Aside0 (wantGo l ws 0 ws ch = wantGo l ws kk (ws.drop kk) (ch ++ (ws.take kk).map fun x => placeOf l x.f0)))
    case atStart => exact ⟨0, Nat.zero_le _, by omega, rfl, HI3, HO3, HF30, HW0⟩
    case round =>
      clear HI3 HO3 HF3 HF30 HW0
      obtain ⟨kk, hkk, hg, rfl, HI, HO, HF, HW⟩ := hrel
      by_cases hlt : kk < ws.length
      · have hltz : (kk : Int) < (ws.length : Int) := by omega
        obtain ⟨x, hx⟩ : ∃ x, ws[kk]? = some x := ⟨_, List.getElem?_eq_getElem hlt⟩
        have hxe : rd_T72 ws (kk : Int) = x := by
          unfold rd_T72
          rw [Int.toNat_natCast, List.getD_eq_getElem?_getD, hx]; rfl
        obtain ⟨ad, hA, u0, u1⟩ := at_T72 (HR3.out wr HI.out.s.base) (kk : Int) (by omega) hltz
        rw [hxe, Int.toNat_natCast] at u0 u1
        have HCX := Aside0.mk (HCK.out kk x hx)
        have HWX := Aside0.mk (HWZ.out kk x _ HW.out hx)
        have HTK : Aside0 (((ws.take (kk + 1)).map fun x => placeOf l x.f0) = ((ws.take kk).map fun x => placeOf l x.f0) ++ [placeOf l x.f0]) := ⟨by rw [List.take_add_one, hx, List.map_append]; rfl⟩
        have HTL : Aside0 ((ch ++ (ws.take kk).map fun x => placeOf l x.f0).length ≤ 2000000000) := ⟨by rw [List.length_append, List.length_map, List.length_take]; omega⟩
        have HI1 := Aside0.mk (HI.out.step (below_alloc (Below.refl _ wr) (.cells #[.string x.f0, .int .i64 x.f1] 72)))
        have HX1 := Aside0.mk (heap_alloc_new wr (.cells #[.string x.f0, .int .i64 x.f1] 72))
        have HO1 := Aside0.mk (Kd.R_alloc HO.out (.cells #[.string x.f0, .int .i64 x.f1] 72))
        have HF1 := Aside0.mk (Kd.R_alloc HF.out (.cells #[.string x.f0, .int .i64 x.f1] 72))
        clear hxe hx HCK
        subst hA
        obtain ⟨bd, hbd⟩ : ∃ bd, wantBad l ws kk x = bd := ⟨_, rfl⟩
        rw [hbd] at HCX HWX
        clear hbd
        by_cases hz : bd = 0
        · subst hz
          go_wp2_with (first
            | ((with_reducible refine gate_dst (N := 41) rfl ?_); refine load_ev (p := .tmp 12) rfl rfl rfl HI1.out.p Tryz.underlying86 rfl (by kernel_rfl) ?_)
            | (go_at_call 41; refine (HCX.out _ HI1.out.s.base).mono ?_; rintro e w2 ⟨rfl, hb⟩; have HI2 := Aside0.mk (HI1.out.step hb); have HX2 := Aside0.mk (blk_below HX1.out hb); have HO2 := Aside0.mk (Kd.R_below HO1.out hb); have HF2 := Aside0.mk (Kd.R_below HF1.out hb); have x0 : w2.cell? ⟨wr.heap.size, 0, none⟩ = some (.string x.f0) := blk_cell HX2.out 0; clear hb)
            | ((with_reducible refine gate_dst (N := 48) rfl ?_); refine load_ev (p := .tmp 12) rfl rfl rfl HI2.out.p Tryz.underlying86 rfl (by kernel_rfl) ?_)
            | (go_at_call 42; refine (HPL.out x.f0 _ HI2.out.s.base).mono ?_; rintro e w4 ⟨rfl, hb⟩; have HI4 := Aside0.mk (HI2.out.step hb); have HO4 := Aside0.mk (Kd.R_below HO2.out hb); have HF4 := Aside0.mk (Kd.R_below HF2.out hb); clear hb x0)
            | ((with_reducible refine gate_builtin (b := .append) (xs := #[.tmp 47, .tmp 52]) rfl ?_); at_builtin; refine Kd.R_append (Kd.int .i64) (w0 := w4) (bp + 1) rfl (.tmp 47) (.tmp 52) 39 3 (.int .i64 0) 8 rfl Tryz.underlying39 info3 rfl (by decide) (by decide) u13 (ch ++ (ws.take kk).map fun x => placeOf l x.f0) (placeOf l x.f0) [.int .i64 (placeOf l x.f0)] (fun k => bp < k) (fun _ => False) rfl rfl rfl (fun _ hk => hk.elim) (fun k hk => by have := blk_lt HI4.out.p; omega) HF4.out (Below.refl _ _) (by have := blk_lt HI4.out.p; omega) (by have := HTL.out; omega) ?_; intro v1 w9 ho hb hg hat; have HF9 := Aside0.mk ho; have HI9 := Aside0.mk (HI4.out.grown hg (fun b hb => HF4.out.1 b hb)); have HO9 := Aside0.mk (Kd.R_grown HO4.out hg (fun k hk e => by have h1 : bp < k := HF4.out.1 k e.symm; have h2 : k < bp := hk.2; omega)); clear ho hb hg hat))
          go_roundg (ws.length - (kk + 1))
          case measure => omega
          case rel => exact ⟨kk + 1, by omega, by omega, by go_num, HI9, HO9, ⟨by rw [HTK.out, ← List.append_assoc]; exact HF9.out⟩, ⟨by rw [HTK.out, ← List.append_assoc]; exact HWX.out.trans (if_pos trivial)⟩⟩
        · have hbb : (bd != 0) = true := bne_iff_ne.mpr hz
          have hbo := HRB.out bd (HWX.out.trans (if_neg hz)) hz
          have HBO := Aside0.mk hbo
          clear hz hbo
          go_wp2_with (first
            | ((with_reducible refine gate_dst (N := 41) rfl ?_); refine load_ev (p := .tmp 12) rfl rfl rfl HI1.out.p Tryz.underlying86 rfl (by kernel_rfl) ?_)
            | (go_at_call 41; refine (HCX.out _ HI1.out.s.base).mono ?_; rintro e w2 ⟨rfl, hb⟩; have HI2 := Aside0.mk (HI1.out.step hb); have HX2 := Aside0.mk (blk_below HX1.out hb); have HO2 := Aside0.mk (Kd.R_below HO1.out hb); have HF2 := Aside0.mk (Kd.R_below HF1.out hb); have x0 : w2.cell? ⟨wr.heap.size, 0, none⟩ = some (.string x.f0) := blk_cell HX2.out 0; clear hb)
            | ((with_reducible refine gate_ (.store 45 (.tmp 8) (.const (.slice none 0 0))) rfl ?_); refine store_ev 45 (.tmp 8) (.const (.slice none 0 0)) rfl rfl rfl 0 [.slice none 0 0] HI2.out.s.r rfl rfl rfl (by kernel_rfl) (show 0 + 1 ≤ 1 by decide) (by simp [Value.oneCell']) rfl ?_; intro Wx hn hg; have HSx := Aside0.mk (HI2.out.s.putR hg hn); clear hn hg)
            | ((with_reducible refine gate_ (.store 31 (.tmp 9) (.tmp 46)) rfl ?_); refine store_ev 31 (.tmp 9) (.tmp 46) rfl rfl rfl 0 [.int .i64 bd] HSx.out.e rfl rfl rfl (by kernel_rfl) (show 0 + 1 ≤ 1 by decide) (by simp [Value.oneCell']) rfl ?_; intro Wy hn hg; have HSy := Aside0.mk (HSx.out.putE hg hn); clear hn hg))
          refine leave_plain (results_two rfl rfl rfl Tryz.isAgg45 Tryz.isAgg31 ((blk_cell HSy.out.r 0).trans rfl) ((blk_cell HSy.out.e 0).trans rfl)) ?_
          rw [HBO.out]
          exact ⟨_, rfl, Kd.R_nil _ _ _ _ _, HSy.out.base⟩
      · have hltz : ¬ (kk : Int) < (ws.length : Int) := by omega
        have : kk = ws.length := by omega
        subst this
        obtain ⟨Af, cf, rfl⟩ := Kd.R_slice HF.out
        obtain ⟨fr, hfr⟩ : ∃ fr, (ch ++ (ws.take ws.length).map fun x => placeOf l x.f0) = fr := ⟨_, rfl⟩
        rw [hfr] at HF HW ⊢
        have hrf := HRF.out fr (HW.out.trans (by rw [List.drop_length]; rfl))
        have HRO := Aside0.mk hrf
        have hfc := (Kd.R_reads' HF.out).2.1
        have HI5 := Aside0.mk (HI.out.step (below_alloc (Below.refl _ wr) (.cells #[.slice none 0 0] 45)))
        have HO5 := Aside0.mk (Kd.R_alloc HO.out (.cells #[.slice none 0 0] 45))
        have HF5 := Aside0.mk (Kd.R_alloc HF.out (.cells #[.slice none 0 0] 45))
        have HB5 := Aside0.mk (heap_alloc_new wr (.cells #[.slice none 0 0] 45))
        have HL5 := Aside0.mk (show bp < wr.heap.size from blk_lt HI.out.p)
        clear hrf hfr HI HO HF HW HRF HRB HWZ
        go_wp2
        refine wp_mono (Q := noPanic _) ?_ noPanic_le
        refine sX (ds := []) (S := fun w' => w'.cell? ⟨bp, 0, none⟩ = some (.slice A0 l.length c0) ∧ w'.cell? ⟨bp, 1, none⟩ = some (.slice A1 tg.length c1) ∧ w'.cell? ⟨bp, 2, none⟩ = some (.slice A3 ws.length c3)) rls.tab15 rls.bits15 ⟨blk_cell (blk_drew HI5.out.p) 0, blk_cell (blk_drew HI5.out.p) 1, blk_cell (blk_drew HI5.out.p) 2⟩ (fun HT_ HW_ hHeld => ?_)
        have HI6 := Aside0.mk (HI5.out.step (below_drew1 (Below.refl _ _)))
        have HO6 := Aside0.mk (Kd.R_drew HO5.out)
        have HF6 := Aside0.mk (Kd.R_drew HF5.out)
        have HB6 := Aside0.mk (blk_drew HB5.out)
        generalize wr.heap.size = bo at HL5 HB6 ⊢
        generalize World.drew _ = W6 at HI6 HO6 HF6 HB6 hHeld ⊢
        clear HI5 HO5 HF5 HB5
        refine pX HT_ 1 2 56 ?_
        refine pX HT_ 2 6 57 ?_
        refine pX HT_ 3 14 58 ?_
        refine tX HT_ HW_ hHeld 0 15 55 ?_
        refine gX HT_ 4 31 59 Tryz.func44 (HUP.out Af cf fr W6 HI6.out.s.base (Kd.R_reads' HF6.out).2.2 hfc) ?_
        rintro e W7 ⟨v7, rfl, hR, hb⟩
        obtain ⟨Au, cu, rfl⟩ := Kd.R_slice hR
        have HI7 := Aside0.mk (HI6.out.step hb)
        have HO7 := Aside0.mk (Kd.R_below HO6.out hb)
        have HB7 := Aside0.mk (blk_below HB6.out hb)
        have HU7 := Aside0.mk (Kd.R_mono (Kd.R_bound hR) (ok' := fun k => bo < k) (fun k hk => by have := hk.2.1; have := blk_lt HB6.out; omega))
        clear hR hb HI6 HO6 HF6 HB6 hHeld
        refine ⟨_, rfl, _, nX, ⟨blk_cell HI7.out.p 0, blk_cell HI7.out.p 1, blk_cell HI7.out.p 2⟩, fun hHeld => ?_⟩
        refine gX HT_ 5 63 60 Tryz.func43 (released_calls A0 A1 A3 Ao Au l.length c0 tg.length c1 ws.length c3 ol.length co (upG l fr).length cu W7) ?_
        rintro e W8 ⟨rfl, hW8⟩
        have hb8 : Below W7.heap.size W7 W8 := by rw [hW8]; exact below_alloc (below_alloc (below_alloc (Below.refl _ _) _) _) _
        have hs8 : W8.heap.size = W7.heap.size + 3 := by rw [hW8]; simp
        have k0 : W8.heap[W7.heap.size]? = some (.cells (plc A0 A1 A3 l.length c0 tg.length c1 ws.length c3) 86 (0, 0)) := by rw [hW8]; exact blk_alloc (blk_alloc (heap_alloc_new W7 _) _) _
        have k1 : W8.heap[W7.heap.size + 1]? = some (.cells #[.slice Ao ol.length co] 39 (0, 0)) := by
          rw [hW8]
          have h := heap_alloc_new (W7.alloc (.cells (plc A0 A1 A3 l.length c0 tg.length c1 ws.length c3) 86)) (.cells #[.slice Ao ol.length co] 39)
          rw [show (W7.alloc (.cells (plc A0 A1 A3 l.length c0 tg.length c1 ws.length c3) 86)).heap.size = W7.heap.size + 1 by simp] at h
          exact blk_alloc h _
        have k2 : W8.heap[W7.heap.size + 1 + 1]? = some (.cells #[.slice Au (upG l fr).length cu] 39 (0, 0)) := by
          rw [hW8]
          have h := heap_alloc_new ((W7.alloc (.cells (plc A0 A1 A3 l.length c0 tg.length c1 ws.length c3) 86)).alloc (.cells #[.slice Ao ol.length co] 39)) (.cells #[.slice Au (upG l fr).length cu] 39)
          rw [show ((W7.alloc (.cells (plc A0 A1 A3 l.length c0 tg.length c1 ws.length c3) 86)).alloc (.cells #[.slice Ao ol.length co] 39)).heap.size = W7.heap.size + 1 + 1 by simp] at h
          exact h
        clear hW8
        have HI8 := Aside0.mk (HI7.out.step hb8)
        have HO8 := Aside0.mk (Kd.R_below HO7.out hb8)
        have HB8 := Aside0.mk (blk_below HB7.out hb8)
        have HU8 := Aside0.mk (Kd.R_below HU7.out hb8)
        have HLO := Aside0.mk (blk_lt HB7.out)
        clear hb8 HI7 HO7 HB7 HU7 hHeld
        refine ⟨_, rfl, _, nX, ⟨blk_cell HI8.out.p 0, blk_cell HI8.out.p 1, blk_cell HI8.out.p 2⟩, fun hHeld => ?_⟩
        refine eX HT_ ?_
        simp only [noPanic]
        clear HT_ HW_ hHeld
        have K0 := Aside0.mk k0
        have K1 := Aside0.mk k1
        have K2 := Aside0.mk k2
        have HS8 := Aside0.mk hs8
        clear k0 k1 k2 hs8
        go_wp2
        obtain ⟨N, hN⟩ : ∃ N, W8.heap.size = N := ⟨_, rfl⟩
        have HNN := Aside0.mk hN
        have hkeq : ∀ (W : World), W8.heap.size ≤ W.heap.size → (∀ k, (k < N ∧ k ≠ w.heap.size ∧ k ≠ w.heap.size + 1 ∧ k ≠ bo) → W.heap[k]? = W8.heap[k]?) → RlEnv l tg ws ol (upG l fr) A0 A1 A3 Ao Au c0 c1 c3 co cu (W7.heap.size + 1) (W7.heap.size + 1 + 1) W7.heap.size W := by
          intro W hs hk
          have e8 := HS8.out
          have hn8 := HNN.out
          have lo := HLO.out
          have l5 := HL5.out
          have lt := HI8.out.lt
          have b8 := HI8.out.s.base
          obtain ⟨g0, g1, g3, gG⟩ := HENV.out W (fun k hlt => (hk k ⟨by have := b8.size; omega, by omega, by omega, by omega⟩).trans (b8.block k hlt))
          have s0 := hk W7.heap.size ⟨by omega, by omega, by omega, by omega⟩
          have s1 := hk (W7.heap.size + 1) ⟨by omega, by omega, by omega, by omega⟩
          have s2 := hk (W7.heap.size + 1 + 1) ⟨by omega, by omega, by omega, by omega⟩
          refine ⟨(blk_cell (s1.trans K1.out) 0).trans rfl, (blk_cell (s2.trans K2.out) 0).trans rfl, s0.trans K0.out, ?_, ?_, g0, g1, g3, gG⟩
          · exact (Kd.R_reads' (Kd.R_step HO8.out (fun k h hlt => hk k ⟨by omega, by have := h.1; omega, by have := h.1; omega, by have := h.2; omega⟩))).2.2
          · exact (Kd.R_reads' (Kd.R_step HU8.out (fun k h hlt => hk k ⟨by omega, by omega, by omega, by omega⟩))).2.2
        have hseq := released_has (l := l) (tg := tg) (ws := ws) (order := ol) (ups := upG l fr) W8 (fun k => k < N ∧ k ≠ w.heap.size ∧ k ≠ w.heap.size + 1 ∧ k ≠ bo) (by omega) HIN.out ht hc1 hkeq (fun k hk => by omega)
        refine (wpIn_wide (n := 0)).1 ?_
        refine range_law2 (gf := 81) (lb := #[.pointer (some ⟨W7.heap.size + 1, 0, none⟩), .pointer (some ⟨W7.heap.size + 1 + 1, 0, none⟩), .pointer (some ⟨W7.heap.size, 0, none⟩)]) rfl (enters_of Tryz.func81 (by kernel_rfl) rfl)
          hseq (fun k hk => by omega) (fun k hk => hk.elim) (fun _ => rfl)
          (fun k => k = w.heap.size ∨ k = w.heap.size + 1 ∨ k = bo ∨ N + 2 ≤ k) (fun k hk => by have lo := HLO.out; have l5 := HL5.out; have lt := HI8.out.lt; have e8 := HS8.out; refine ⟨?_, ?_, ?_⟩ <;> omega)
          (fun pre W => RiIs w (N + 2) bo pre W)
          (fun c pre W => c = .ret ∧ ∃ er, RsIs w (.slice none 0 0) (.int .i64 er) W ∧ ro = ([], er)) ?_ ?_ ?_ (fun lp x W a' W' => a' = { tmps := #[.slice A0 l.length c0, .slice A1 tg.length c1, .slice A2 ch.length c2, .slice A3 ws.length c3, undef, undef, undef, undef, .pointer (some ⟨w.heap.size, 0, none⟩), .pointer (some ⟨w.heap.size + 1, 0, none⟩), .slice Ao ol.length co, .int .i64 0, .pointer (some ⟨bp, 0, none⟩), .slice Af fr.length cf, u14, u15, u16, .pointer (some ⟨bo, 0, none⟩), .pointer (some ⟨W.heap.size, 0, none⟩), .int .i64 x.2, .tuple #[.slice Ao ol.length co, .int .i64 0], .slice A0 l.length c0, .tuple #[.slice Ao ol.length co, .int .i64 0], .slice Ao ol.length co, .int .i64 0, .int .i64 0, .bool false, undef, .slice A0 l.length c0, .slice A1 tg.length c1, .slice A3 ws.length c3, .agg (plc A0 A1 A3 l.length c0 tg.length c1 ws.length c3), .slice A2 ch.length c2, v0, .slice A3 ws.length c3, .int .i64 ws.length, .int .i64 ws.length, .bool false, u38, u39, u40, u41, u42, u43, u44, u45, u46, u47, u48, u49, u50, u51, u52, u53, u54, .agg (plc A0 A1 A3 l.length c0 tg.length c1 ws.length c3), .slice Ao ol.length co, .slice A0 l.length c0, .slice Af fr.length cf, .slice Au (upG l fr).length cu, .func (.func 81) #[] #[.pointer (some ⟨W7.heap.size + 1, 0, none⟩), .pointer (some ⟨W7.heap.size + 1 + 1, 0, none⟩), .pointer (some ⟨W7.heap.size, 0, none⟩)], .agg (rlc x.1), .int .i64 x.2, undef, undef, undef, undef, undef, undef, undef, undef], defers := [] } ∧ W' = W.alloc (.cells (rlc x.1) 30)) ?_ ?_ ?_ ?_ ?_
        · rintro s A B h hs hm
          exact h.moves hm (fun k hk => by have lo := HLO.out; have l5 := HL5.out; have lt := HI8.out.lt; have e8 := HS8.out; rcases hk with hk | hk | hk; exact hk.elim; all_goals omega)
        · rintro c s A B ⟨h0, er, h1, h2⟩ hs hm
          refine ⟨h0, er, ⟨below_moves h1.base (Nat.le_refl _) hm (fun k hk => by have lo := HLO.out; have l5 := HL5.out; have lt := HI8.out.lt; have e8 := HS8.out; rcases hk with hk | hk | hk; exact hk.elim; all_goals omega), (hm.block _ (blk_lt h1.r) (fun e => by have lo := HLO.out; have l5 := HL5.out; have lt := HI8.out.lt; have e8 := HS8.out; rcases e with e | e | e; exact e; all_goals omega)).trans h1.r, (hm.block _ (blk_lt h1.e) (fun e => by have lo := HLO.out; have l5 := HL5.out; have lt := HI8.out.lt; have e8 := HS8.out; rcases e with e | e | e; exact e; all_goals omega)).trans h1.e⟩, h2⟩
        · exact ⟨HI8.out.s, fun y h => (by cases h), _, HB8.out, Kd.R_nil _ _ _ _ _⟩
        · rintro l' ⟨x1, x2⟩ W K hW hK
          gi_wp2
          all_goals exact hK _ _ ⟨rfl, rfl⟩
        · rintro l' x W a' W' ⟨_, rfl⟩
          exact Moves.alloc _ _ _
        · rintro l' pre ⟨x1, x2⟩ W W1 W2 a' hW hI hpre ⟨rfl, rfl⟩ hm2 hl hlt
          have hx2 := (hm2.block _ (blk_lt (heap_alloc_new W (.cells (rlc x1) 30))) (by omega)).trans (heap_alloc_new W (.cells (rlc x1) 30))
          have lo := HLO.out
          have l5 := HL5.out
          have lt := HI8.out.lt
          have e8 := HS8.out
          have hn8 := HNN.out
          have hI2 := (hI.moves (Moves.alloc (fun _ => False) W (.cells (rlc x1) 30)) (fun k hk => hk.elim)).moves hm2 (fun k hk => by omega)
          have hsz : N + 2 ≤ W2.heap.size := by have := hm2.size; rw [World.size_alloc] at this; omega
          have hpl : (pre.map (·.1)).length + 1 ≤ 13 := by
            have := hpre.length_le
            rw [List.length_append, List.length_map] at this
            have h2 := List.length_filter_le (fun z => (upG l fr).contains z) ol
            rw [List.length_map]
            simp only [List.length_cons, List.length_nil] at this
            omega
          obtain ⟨s, zz, v, ho, hr⟩ := hI2
          have ho0 := (blk_cell ho 0).trans rfl
          by_cases hx : x2 = 0
          · subst hx
            have HX2 := Aside0.mk hx2
            have z0 := (blk_cell hx2 0).trans rfl; have z1 := (blk_cell hx2 1).trans rfl; have z2 := (blk_cell hx2 2).trans rfl; have z3 := (blk_cell hx2 3).trans rfl; have z4 := (blk_cell hx2 4).trans rfl; have z5 := (blk_cell hx2 5).trans rfl; have z6 := (blk_cell hx2 6).trans rfl; have z7 := (blk_cell hx2 7).trans rfl; have z8 := (blk_cell hx2 8).trans rfl; have z9 := (blk_cell hx2 9).trans rfl; have z10 := (blk_cell hx2 10).trans rfl; have z11 := (blk_cell hx2 11).trans rfl; have z12 := (blk_cell hx2 12).trans rfl
            have HOO := Aside0.mk ho
            have HRR := Aside0.mk hr
            have HSS := Aside0.mk s
            have HZZ := Aside0.mk zz
            clear ho hr s zz hI hx2 hm2 hpre hkeq hseq
            gi_wp2_with (gi_at_builtin; (refine R_appendIn k30 (W := W2) (N + 2) rfl (.tmp 66) (.tmp 68) 45 30 _ 136 rfl Tryz.underlying45 info30 rfl (by decide) (by decide) v (pre.map (·.1)) x1 (rlc x1).toList (fun k => N + 2 ≤ k) (fun _ => False) rfl rfl (k30_mkM _ _ _ x1) (fun _ h => h.elim) (fun k hk => by omega) HRR.out hsz (by omega) ?_); intro v1 w1 ho1 hg1; obtain ⟨Av, cv, hv1⟩ := Kd.R_slice ho1; obtain ⟨nn, hnn⟩ : ∃ nn, nn = (pre.map (·.1) ++ [x1]).length := ⟨_, rfl⟩; rw [← hnn] at hv1; clear hnn; subst hv1; have HO1 := Aside0.mk ho1; have HG1 := Aside0.mk hg1; have hb1 := blk_grown HOO.out hg1 (fun e => by have : N + 2 ≤ bo := HRR.out.1 bo e.symm; omega); have HB1 := Aside0.mk hb1; have cc1 := blk_cell hb1 0; have ff1 := blk_frozen hb1 0; clear ho1 hg1 hb1)
            have HMV : Aside0 (∀ u, Moves (fun k => k = w.heap.size ∨ k = w.heap.size + 1 ∨ k = bo ∨ N + 2 ≤ k) W2 (w1.setCell ⟨bo, 0, none⟩ u)) := ⟨fun u => (moves_grown HG1.out (fun b hb => .inr (.inr (.inr (HRR.out.1 b hb))))).trans (Moves.setCell (p := ⟨bo, 0, none⟩) (.inr (.inr (.inl rfl))) u)⟩
            refine ⟨HMV.out _, ⟨⟨?_, ?_, ?_⟩, ?_, _, blk_set HB1.out 0 _, ?_⟩⟩
            · exact below_moves HSS.out.base (Nat.le_refl _) (HMV.out _) (fun k hk => by omega)
            · exact (Below.heap_setCell w1 ⟨bo, 0, none⟩ _ _ (by show w.heap.size ≠ bo; omega)).trans (blk_grown HSS.out.r HG1.out (fun e => by have : N + 2 ≤ w.heap.size := HRR.out.1 _ e.symm; omega))
            · exact (Below.heap_setCell w1 ⟨bo, 0, none⟩ _ _ (by show w.heap.size + 1 ≠ bo; omega)).trans (blk_grown HSS.out.e HG1.out (fun e => by have : N + 2 ≤ w.heap.size + 1 := HRR.out.1 _ e.symm; omega))
            · intro y hy
              rcases List.mem_append.1 hy with hy | hy
              · exact HZZ.out y hy
              · obtain rfl := List.mem_singleton.1 hy
                rfl
            · rw [List.map_append]
              exact Kd.R_far HO1.out (fun k hk => by show k ≠ bo; have : N + 2 ≤ k := hk; omega) _
          · have hxb : (x2 != 0) = true := bne_iff_ne.mpr hx
            have hro2 : ro = ([], x2) := HRO.out.trans (relGo_stop hpre zz hx)
            have HRO2 := Aside0.mk hro2
            have r0 := (blk_cell s.r 0).trans rfl
            have rf := blk_frozen s.r 0
            have e0 := (blk_cell s.e 0).trans rfl
            have ef := blk_frozen s.e 0
            have HSS := Aside0.mk s
            clear hx ho hr s zz hI hx2 hm2 hpre hkeq hseq hro2
            gi_wp2
            have HE1 := Aside0.mk (blk_far HSS.out.e (p := ⟨w.heap.size, 0, none⟩) (by show w.heap.size + 1 ≠ w.heap.size; omega) (.slice none 0 0))
            refine ⟨(Moves.setCell (p := ⟨w.heap.size, 0, none⟩) (.inl rfl) _).trans (Moves.setCell (p := ⟨w.heap.size + 1, 0, none⟩) (.inr (.inl rfl)) _), rfl, x2, ⟨?_, ?_, ?_⟩, HRO2.out⟩
            · exact (HSS.out.base.setCell (p := ⟨w.heap.size, 0, none⟩) (Nat.le_refl _) _).setCell (p := ⟨w.heap.size + 1, 0, none⟩) (Nat.le_succ _) _
            · exact blk_far (blk_set HSS.out.r 0 _) (p := ⟨w.heap.size + 1, 0, none⟩) (by show w.heap.size ≠ w.heap.size + 1; omega) _
            · exact blk_set HE1.out 0 _
        · rintro D W hI hD hDe
          have hDn : W8.heap.size ≤ D := by omega
          obtain ⟨s, zz, v, ho, hr⟩ := hI
          have hvc := fun (v : Value) (h : Kd.R k30 30 W (N + 2) (fun k => N + 2 ≤ k) v (((ol.filter fun z => (upG l fr).contains z).map (relAt l tg ws)).map (·.1))) => (show v.cells.toList = [v] from by obtain ⟨A, c, rfl⟩ := Kd.R_slice h; rfl)
          have hvo := fun (v : Value) (h : Kd.R k30 30 W (N + 2) (fun k => N + 2 ≤ k) v (((ol.filter fun z => (upG l fr).contains z).map (relAt l tg ws)).map (·.1))) => (show ∀ q ∈ [v], q.oneCell' = true from by obtain ⟨A, c, rfl⟩ := Kd.R_slice h; intro q hq; obtain rfl := List.mem_singleton.1 hq; rfl)
          have hro2 : ro = _ := HRO.out.trans (relGo_full zz)
          have HRO2 := Aside0.mk hro2
          have lo := HLO.out
          have l5 := HL5.out
          have lt := HI8.out.lt
          have e8 := HS8.out
          have hn8 := HNN.out
          have hds : D < W.heap.size := blk_lt hD
          have cc0 := (blk_cell ho 0).trans rfl
          have HSS := Aside0.mk s
          have HRR := Aside0.mk hr
          have HDD := Aside0.mk hD
          clear zz hr s ho hkeq hseq hro2 hD
          have DW : w.heap.size ≠ D := by omega
          have DE : w.heap.size + 1 ≠ D := by omega
          have BW : w.heap.size ≠ bo := by omega
          go_wp2_with (first
            | ((with_reducible refine gate_ (.store 45 (.tmp 8) (.tmp 70)) rfl ?_); refine store_ev 45 (.tmp 8) (.tmp 70) rfl rfl rfl 0 [v] HSS.out.r rfl rfl (hvc v HRR.out) (by kernel_rfl) (show 0 + 1 ≤ 1 by decide) (hvo v HRR.out) rfl ?_; intro Wx hn hg; have HSx := Aside0.mk (HSS.out.putR hg hn); have HRx := Aside0.mk (Kd.R_grown HRR.out hg (fun k hk e => by injection e with e; have : N + 2 ≤ k := hk; omega)); have HDx := Aside0.mk (blk_grown HDD.out hg (fun e => by injection e with e; omega)); clear hn hg)
            | ((with_reducible refine gate_ (.store 31 (.tmp 9) (.const (.int .i64 0))) rfl ?_); refine store_ev 31 (.tmp 9) (.const (.int .i64 0)) rfl rfl rfl 0 [.int .i64 0] HSx.out.e rfl rfl rfl (by kernel_rfl) (show 0 + 1 ≤ 1 by decide) (by simp [Value.oneCell']) rfl ?_; intro Wy hn hg; have HSy := Aside0.mk (HSx.out.putE hg hn); have HRy := Aside0.mk (Kd.R_grown HRx.out hg (fun k hk e => by injection e with e; have : N + 2 ≤ k := hk; omega)); have HDy := Aside0.mk (blk_grown HDx.out hg (fun e => by injection e with e; omega)); clear hn hg))
          refine leave_marked HDy.out (results_two rfl rfl rfl Tryz.isAgg45 Tryz.isAgg31 (cell_putObj DW ((blk_cell HSy.out.r 0).trans rfl)) (cell_putObj DE ((blk_cell HSy.out.e 0).trans rfl))) ?_
          rw [HRO2.out]
          refine ⟨_, rfl, ?_, below_moves HSy.out.base (Nat.le_refl _) (Moves.putObj (may := fun k => k = D) rfl _) (fun k hk => by omega)⟩
          exact Kd.R_mono (Kd.R_lower (Kd.R_step HRy.out (fun k hk hlt => World.putObj_heap_other (fun e => by have : N + 2 ≤ k := hk; omega))) (by omega)) (fun _ _ => trivial)
        · rintro D c pre W hpre ⟨rfl, er, hs, hro2⟩ hD hDe
          have hDn : W8.heap.size ≤ D := by omega
          have HRO2 := Aside0.mk hro2
          have lo := HLO.out
          have l5 := HL5.out
          have lt := HI8.out.lt
          have e8 := HS8.out
          have hn8 := HNN.out
          clear hkeq hseq hro2
          gi_wp2
          refine leave_marked hD (results_two rfl rfl rfl Tryz.isAgg45 Tryz.isAgg31 (cell_putObj (show w.heap.size ≠ D by omega) ((blk_cell hs.r 0).trans rfl)) (cell_putObj (show w.heap.size + 1 ≠ D by omega) ((blk_cell hs.e 0).trans rfl))) ?_
          rw [HRO2.out]
          exact ⟨_, rfl, Kd.R_nil _ _ _ _ _, below_moves hs.base (Nat.le_refl _) (Moves.putObj (may := fun k => k = D) rfl _) (fun k hk => by omega)⟩
  · have hbo : ro = ([], (ordG l).2) := HRO.out.symm.trans (by unfold relOf; rw [if_neg he])
    subst hbo
    have heb : ((ordG l).2 != 0) = true := bne_iff_ne.mpr he
    generalize (ordG l).2 = er at *
    generalize (ordG l).1 = ol at *
    clear he HRO
    generalize l.length = n0 at *
    clear hr0 hr1 hr2 hr3
    refine (callsIn_wide (n := 0)).1 ?_
    refine callsIn_of_wp_marks Tryz.func15 rfl trivial ?_ rfl
    simp only [Tryz.ntmps15, List.size_toArray, List.length_cons, List.length_nil, Nat.reduceAdd, Nat.reduceSub, Array.replicate_succ, Array.replicate_zero, List.push_toArray, List.append_toArray, List.nil_append, List.cons_append]
    refine wpIn_wide.2 ?_
    go_upto_region 1 with fail
    clear hW1
    go_wp2_with (first
      | (go_at_call 39; refine (HORD.out _ HS1.out.base).mono ?_; rintro e W2 ⟨v0, rfl, hR, hb⟩; have HS2 := Aside0.mk (HS1.out.step hb); clear hR hb)
      | ((with_reducible refine gate_ (.store 45 (.tmp 8) (.const (.slice none 0 0))) rfl ?_); refine store_ev 45 (.tmp 8) (.const (.slice none 0 0)) rfl rfl rfl 0 [.slice none 0 0] HS2.out.r rfl rfl rfl (by kernel_rfl) (show 0 + 1 ≤ 1 by decide) (by simp [Value.oneCell']) rfl ?_; intro W3 hn hg; have HS3 := Aside0.mk (HS2.out.putR hg hn); clear hn hg)
      | ((with_reducible refine gate_ (.store 31 (.tmp 9) (.tmp 27)) rfl ?_); (refine store_ev 31 (.tmp 9) (.tmp 27) rfl rfl rfl 0 [.int .i64 er] HS3.out.e rfl rfl rfl (by kernel_rfl) (show 0 + 1 ≤ 1 by decide) (by simp [Value.oneCell']) rfl ?_); intro W4 hn hg; have HS4 := Aside0.mk (HS3.out.putE hg hn); clear hn hg))
    refine leave_plain (results_two rfl rfl rfl Tryz.isAgg45 Tryz.isAgg31 ((blk_cell HS4.out.r 0).trans rfl) ((blk_cell HS4.out.e 0).trans rfl)) ?_
    exact ⟨_, rfl, Kd.R_nil _ _ _ _ _, HS4.out.base⟩
end Go.Proofs.YtillhaipemengaaGreatDoor
end
