/- The texts As, BpEv in one file, without what these claims do not use (put together by prune2.py). -/
import Derived.Test.YtillhaipemengaaGreatDoorZC4
import Derived.Test.YtillhaipemengaaGreatDoorZC1
import Derived.Deep.MidRow
section
namespace Go.Proofs.YtillhaipemengaaGreatDoor
open Go Go.RowKit Go.Proofs.YtillhaipemengaaGreatDoorW.PrintWords Go.Proofs.YtillhaipemengaaGreatDoorW.PrintLast
set_option linter.unusedVariables false
set_option linter.unusedSimpArgs false
def bitsA (n m : Nat) : Array Bool := ((List.range n).map fun i => m.testBit i).toArray
theorem bitsA_none (n : Nat) : Array.replicate n false = bitsA n 0 := by
  unfold bitsA
  rw [← List.toArray_replicate]
  congr 1
  refine (List.eq_replicate_iff.2 ⟨by simp, fun b hb => ?_⟩).symm
  obtain ⟨i, _, rfl⟩ := List.mem_map.1 hb
  exact Nat.zero_testBit i
section
variable {P : Program} {ops : Array Oper} {Q : Exit → Act → World → Prop} {S : World → Prop} {T : Bool × List (List Nat × List Nat)} {B : List Nat} {ds : List Nat} {n m fuel : Nat} {a : Act} {w : World}
theorem sX {id : Nat} (hT : rtab .any ops = T) (hB : waitsOk T.2 B = true) (hS : S w.drew)
    (h : Aside0 (rtab .any ops = T) → Aside0 (waitsOk T.2 B = true) → S w.drew → wpAnyLast P .any ops Q S ds n (bitsA n 0) a w.drew) (hm : P.follows .mixedOrders = true := by kernel_rfl) (hn : ops.size = n := by rfl) : (Code.region id ops true).wp P Q a w :=
  start_ (bitsA n 0) hm hn (bitsA_none n) hS (fun hh => h ⟨hT⟩ ⟨hB⟩ hh)
/-- An operation that looks at no memory. -/
theorem pX (HT : Aside0 (rtab .any ops = T)) (i m' d : Nat) {oi : Oper} {v : Value} {a' : Act} (h : wpAnyLast P .any ops Q S ds fuel (bitsA n m') a' w)
    (hi : ops[i]? = some oi := by rfl) (hN : oi.dst = some d := by rfl) (hc : anyT T (bitsA n m).toList (bitsA n m').toList i = true := by kernel_rfl) (hQ : ∀ c a w, Q (.panic c) (a.put oi.dst v) w → Q (.panic c) a w := by exact fun _ _ _ h => h)
    (hw : Region.wanted oi (yielded ops a.tmps) = true := by kernel_rfl) (hy : ∀ w, (execOp a.eval oi).run P w = .ok (.value v) w := by (intro w'; go_simp; with_reducible rfl))
    (ha : a.put (some d) v = a' := by (simp only [Act.put, List.setIfInBounds_toArray, List.set_cons_zero, List.set_cons_succ, i64_w, i32_w]; rfl)) : wpAnyLast P .any ops Q S ds (fuel + 1) (bitsA n m) a w :=
  pure_ (bitsA n m') hi hN (any_of HT.out hc) hQ (Or.inl ⟨hw, hy⟩) ha h
/-- A load of what S tells. -/
theorem tX (HT : Aside0 (rtab .any ops = T)) (HW : Aside0 (waitsOk T.2 B = true)) (hS : S w) (i m' d : Nat) {oi : Oper} {v : Value} {a' : Act} (h : wpAnyLast P .any ops Q S ds fuel (bitsA n m') a' w)
    (hi : ops[i]? = some oi := by rfl) (hN : oi.dst = some d := by rfl) (hc : takeW T B ds (bitsA n m).toList (bitsA n m').toList i = true := by kernel_rfl) (hQ : ∀ c a w, Q (.panic c) (a.put oi.dst v) w → Q (.panic c) a w := by exact fun _ _ _ h => h)
    (hw : Region.wanted oi (yielded ops a.tmps) = true := by kernel_rfl) (hy : ∀ w, S w → (execOp a.eval oi).run P w = .ok (.value v) w := by (intro w' hs_; (repeat (obtain ⟨_, hs_⟩ := hs_)); go_simp; with_reducible rfl))
    (ha : a.put (some d) v = a' := by (simp only [Act.put, List.setIfInBounds_toArray, List.set_cons_zero, List.set_cons_succ, i64_w, i32_w]; rfl)) : wpAnyLast P .any ops Q S ds (fuel + 1) (bitsA n m) a w :=
  take_ (bitsA n m') hi hN (take_ofW HT.out HW.out hc) hQ (Or.inl ⟨hw, hy⟩) hS ha h
/-- An operation whose guard is off. -/
theorem fX (HT : Aside0 (rtab .any ops = T)) (i m' d : Nat) {oi : Oper} {a' : Act} (h : wpAnyLast P .any ops Q S ds fuel (bitsA n m') a' w)
    (hi : ops[i]? = some oi := by rfl) (hN : oi.dst = some d := by rfl) (hc : anyT T (bitsA n m).toList (bitsA n m').toList i = true := by kernel_rfl) (hQ : ∀ c a w, Q (.panic c) (a.put oi.dst undef) w → Q (.panic c) a w := by exact fun _ _ _ h => h)
    (hw : Region.wanted oi (yielded ops a.tmps) = false := by kernel_rfl)
    (ha : a.put (some d) undef = a' := by (simp only [Act.put, List.setIfInBounds_toArray, List.set_cons_zero, List.set_cons_succ, i64_w, i32_w]; rfl)) : wpAnyLast P .any ops Q S ds (fuel + 1) (bitsA n m) a w :=
  pure_ (bitsA n m') hi hN (any_of HT.out hc) hQ (Or.inr ⟨hw, rfl⟩) ha h
/-- One operation alone may come up. -/
theorem oX (HT : Aside0 (rtab .any ops = T)) (i m' : Nat) (N : Option Tmp) {oi : Oper}
    (h : ∀ K : Act → World → Prop, Shut (∀ a' w', S w' → (S w' → wpAnyLast P .any ops Q S ds fuel (bitsA n m') a' w') → K a' w') → if Region.wanted oi (yielded ops a.tmps) = true then Oper.wp P oi a w K Q else K (a.put N undef) w)
    (hi : ops[i]? = some oi := by rfl) (hN : oi.dst = N := by rfl) (hc : (readyT T.2 (bitsA n m).toList == [i] && (bitsA n m).toList.set i true == (bitsA n m').toList) = true := by kernel_rfl) (hd : i ∉ ds := by decide) : wpAnyLast P .any ops Q S ds (fuel + 1) (bitsA n m) a w :=
  one_ (bitsA n m') hi hN (one_of HT.out hc) hd h
/-- A call of a Go function that alone may come up, by its contract. -/
theorem gX (HT : Aside0 (rtab .any ops = T)) (i m' d : Nat) {oi : Oper} {f : FuncId} {fn : Func} {xs : Array Operand} {ts : Array TypeId} (hf : P.funcs[f]? = some fn) {args : Array Value} {R : Ending → World → Prop} (C : Calls P f args w R)
    (h : ∀ e w', R e w' → ∃ v, e = .returned v ∧ ∃ a', a.put (some d) v = a' ∧ S w' ∧ (S w' → wpAnyLast P .any ops Q S ds fuel (bitsA n m') a' w'))
    (hi : ops[i]? = some oi := by rfl) (hN : oi.dst = some d := by rfl) (hop : oi.op = .call { callee := .value (.func f), args := xs, argTypes := ts } := by rfl) (hname : (fn.name == "runtime.NumGoroutine") = false := by kernel_rfl) (hb : fn.body.isSome = true := by rfl)
    (hw : Region.wanted oi (yielded ops a.tmps) = true := by kernel_rfl) (hargs : xs.map a.eval = args := by ((try simp only [List.map_toArray, List.map_cons, List.map_nil]); first | done | rfl))
    (hc : (readyT T.2 (bitsA n m).toList == [i] && (bitsA n m).toList.set i true == (bitsA n m').toList) = true := by kernel_rfl) (hd : i ∉ ds := by decide) : wpAnyLast P .any ops Q S ds (fuel + 1) (bitsA n m) a w :=
  oX HT i m' (some d) (fun K hK => goes_ hf hname hb args hw hN hop hargs (C.mono fun e w' hr => by
    obtain ⟨v, rfl, a', ha, hS, hh⟩ := h e w' hr
    exact ⟨v, rfl, hK.out _ _ hS (fun hs => by rw [ha]; exact hh hs)⟩)) hi hN hc hd
theorem eX (HT : Aside0 (rtab .any ops = T)) (h : Q .normal a w) (hc : (readyT T.2 (bitsA n m).toList == []) = true := by kernel_rfl) : wpAnyLast P .any ops Q S ds fuel (bitsA n m) a w := done_ (done_of HT.out hc) h
theorem nX {a a' : Act} (h : a = a' := by (simp only [Act.put, List.setIfInBounds_toArray, List.set_cons_zero, List.set_cons_succ, i64_w, i32_w]; rfl)) : a = a' := h
end
end Go.Proofs.YtillhaipemengaaGreatDoor
end

section
namespace Go.Proofs.YtillhaipemengaaGreatDoor
open Go Go.RowKit Go.Proofs.YtillhaipemengaaGreatDoorW.PrintWords Go.Proofs.YtillhaipemengaaGreatDoorW.PrintLast
set_option linter.unusedVariables false
set_option linter.unusedSimpArgs false
section
variable {P : Program} {ops : Array Oper} {rest : List Oper} {o : Oper} {a : Act} {K : Act → World → Prop} {Q : Exit → Act → World → Prop} {W : World} {g : Nat} {e : TypeId} {cur : Array Value}
theorem load_run {ty : TypeId} {p : Operand} {d : TypeDesc} (ho : o.op = .load ty p) (hp : a.eval p = .pointer (some ⟨g, 0, none⟩)) (hg : W.heap[g]? = some (.cells cur e (0, 0)))
    (hu : P.underlying ty = some d) (hd : (match d with | .struct _ | .array _ _ => true | _ => false) = true) (hi : (P.info? ty).map (·.size) = some cur.size) : (execOp a.eval o).run P W = .ok (.value (.agg cur)) W := by
  have h := run_loadVar_row W g e ty cur (0, 0) d hg hu hd hi
  unfold execOp
  simp only [ho, hp, Instr.loadAt, Instr.sureAddr, Sem.run_bind, Sem.run_pure, Result.andThen_ok, h]
/-- A struct is loaded whole. -/
theorem load_ev {ty : TypeId} {p : Operand} {d : TypeDesc} (ho : o.op = .load ty p) (hgd : o.guard = none) (hp : a.eval p = .pointer (some ⟨g, 0, none⟩)) (hg : W.heap[g]? = some (.cells cur e (0, 0)))
    (hu : P.underlying ty = some d) (hd : (match d with | .struct _ | .array _ _ => true | _ => false) = true) (hi : (P.info? ty).map (·.size) = some cur.size) (h : wpList P ops Q rest (a.put o.dst (.agg cur)) W) : wpList P ops Q (o :: rest) a W :=
  Kd.event_run hgd (load_run ho hp hg hu hd hi) h
/-- A struct within a block is loaded. -/
theorem load_mid_ev {ty : TypeId} {p : Operand} {d : TypeDesc} {i : Nat} (ho : o.op = .load ty p) (hgd : o.guard = none) (hp : a.eval p = .pointer (some ⟨g, i, none⟩)) (hg : W.heap[g]? = some (.cells cur e (0, 0))) {seg : List Value} (hs : (cur.toList.drop i).take seg.length = seg)
    (hu : P.underlying ty = some d) (hd : d.isRow = true) (hi : (P.info? ty).map (·.size) = some seg.length) (h : wpList P ops Q rest (a.put o.dst (.agg seg.toArray)) W) : wpList P ops Q (o :: rest) a W := by
  refine Kd.event_run hgd ?_ h
  have hc : W.rangeAt g i seg := fun j v hv => by
    rw [blk_cell hg, ← Array.getElem?_toList]
    rw [← hs, List.getElem?_take] at hv
    split at hv
    · rwa [List.getElem?_drop] at hv
    · cases hv
  unfold execOp
  simp only [ho, hp, run_loadAt_mid W g i ty seg d hc hu hd hi, Sem.run_bind, Sem.run_pure, Result.andThen_ok]
theorem store_run (t : TypeId) (p x : Operand) (ho : o.op = .store t p x) (i : Nat) (seg : List Value) {u : Value} (hh : W.heap[g]? = some (.cells cur e (0, 0))) (haddr : a.eval p = .pointer (some ⟨g, i, none⟩)) (hx : a.eval x = u) (hu : u.cells.toList = seg) (ht : (P.info? t).map (·.size) = some seg.length) (hfit : i + seg.length ≤ cur.size) (h1 : ∀ q ∈ seg, q.oneCell' = true) :
    ∃ w1, (execOp a.eval o).run P W = .ok .skip w1 ∧ w1.heap[g]? = some (.cells (cur.toList.take i ++ (seg ++ cur.toList.drop (i + seg.length))).toArray e (0, 0)) ∧ W.grownBy w1 (some g) := by
  have hrun := run_store_run (P := P) (w := W) (o := i) t u seg hh hu ht (by omega) h1
  obtain ⟨cur', h2, h3, h4⟩ := setCells_row seg i W cur hh (by omega)
  refine ⟨W.setCells g i seg, ?_, ?_, ?_⟩
  · unfold execOp
    simp only [ho, haddr, hx, Sem.run_bind, Sem.run_pure, Result.andThen_ok, hrun]
  · rw [h2]
    congr 2
    apply Array.ext'
    rw [h4]
    simp
  · obtain ⟨s1, s2, s3, s4⟩ := setCells_same g seg i W
    exact ⟨s1, s2, s3, by rw [s4]; exact Nat.le_refl _, fun j _ hj => setCells_far seg i j (fun e => hj (by rw [e]))⟩
/-- What is stored at a place of a block: the cells then are those of 'cs'. -/
theorem store_ev (t : TypeId) (p x : Operand) (ho : o.op = .store t p x) (hgd : o.guard = none) (hN : o.dst = none) (i : Nat) (seg : List Value) {u : Value} {cs : Array Value} (hh : W.heap[g]? = some (.cells cur e (0, 0))) (haddr : a.eval p = .pointer (some ⟨g, i, none⟩)) (hx : a.eval x = u) (hu : u.cells.toList = seg) (ht : (P.info? t).map (·.size) = some seg.length) (hfit : i + seg.length ≤ cur.size) (h1 : ∀ q ∈ seg, q.oneCell' = true)
    (hcs : (cur.toList.take i ++ (seg ++ cur.toList.drop (i + seg.length))).toArray = cs)
    (h : ∀ w1, w1.heap[g]? = some (.cells cs e (0, 0)) → W.grownBy w1 (some g) → wpList P ops Q rest (a.put none undef) w1) : wpList P ops Q (o :: rest) a W := by
  obtain ⟨w1, hr, h2, h3⟩ := store_run (a := a) t p x ho i seg hh haddr hx hu ht hfit h1
  refine wpList_plain hgd fun K hK => ?_
  unfold Oper.wp
  rw [hr]
  show K (a.put o.dst undef) w1
  rw [hN]
  exact hK _ _ (h _ (hcs ▸ h2) h3)
theorem store_K (hw : Region.wanted o (yielded ops a.tmps) = true) (hN : o.dst = none) (t : TypeId) (p x : Operand) (ho : o.op = .store t p x) (i : Nat) (seg : List Value) {u : Value} {cs : Array Value} (hh : W.heap[g]? = some (.cells cur e (0, 0))) (haddr : a.eval p = .pointer (some ⟨g, i, none⟩)) (hx : a.eval x = u) (hu : u.cells.toList = seg) (ht : (P.info? t).map (·.size) = some seg.length) (hfit : i + seg.length ≤ cur.size) (h1 : ∀ q ∈ seg, q.oneCell' = true)
    (hcs : (cur.toList.take i ++ (seg ++ cur.toList.drop (i + seg.length))).toArray = cs)
    (h : ∀ w1, w1.heap[g]? = some (.cells cs e (0, 0)) → W.grownBy w1 (some g) → K (a.put none undef) w1) : if Region.wanted o (yielded ops a.tmps) = true then Oper.wp P o a W K Q else K (a.put none undef) W := by
  rw [if_pos hw]
  obtain ⟨w1, hr, h2, h3⟩ := store_run (a := a) t p x ho i seg hh haddr hx hu ht hfit h1
  unfold Oper.wp
  rw [hr]
  show K (a.put o.dst undef) w1
  rw [hN]
  exact h _ (hcs ▸ h2) h3
end
theorem twX {P : Program} {ops : Array Oper} {Q : Exit → Act → World → Prop} {S : World → Prop} {T : Bool × List (List Nat × List Nat)} {ds : List Nat} {n m fuel : Nat} {a : Act} {w : World} (HT : Aside0 (rtab .any ops = T)) (i j mi mj : Nat) (Ni Nj : Option Tmp) {oi oj : Oper}
    (h1 : ∀ K : Act → World → Prop, Shut (∀ a' w', S w' → (S w' → wpAnyLast P .any ops Q S ds fuel (bitsA n mi) a' w') → K a' w') → if Region.wanted oi (yielded ops a.tmps) = true then Oper.wp P oi a w K Q else K (a.put Ni undef) w)
    (h2 : ∀ K : Act → World → Prop, Shut (∀ a' w', S w' → (S w' → wpAnyLast P .any ops Q S ds fuel (bitsA n mj) a' w') → K a' w') → if Region.wanted oj (yielded ops a.tmps) = true then Oper.wp P oj a w K Q else K (a.put Nj undef) w)
    (hi : ops[i]? = some oi := by rfl) (hj : ops[j]? = some oj := by rfl) (hNi : oi.dst = Ni := by rfl) (hNj : oj.dst = Nj := by rfl)
    (hc : (readyT T.2 (bitsA n m).toList == [i, j] && (bitsA n m).toList.set i true == (bitsA n mi).toList && (bitsA n m).toList.set j true == (bitsA n mj).toList) = true := by kernel_rfl) (hdi : i ∉ ds := by decide) (hdj : j ∉ ds := by decide) : wpAnyLast P .any ops Q S ds (fuel + 1) (bitsA n m) a w :=
  two_ (bitsA n mi) (bitsA n mj) hi hj hNi hNj (two_of HT.out hc) hdi hdj h1 h2
end Go.Proofs.YtillhaipemengaaGreatDoor
end
