/- The texts BpEv in one file, without what these claims do not use (put together by prune2.py). -/
import Derived.Test.YtillhaipemengaaGreatDoorZB24
import Derived.Deep.MidRow
section
namespace Go.Proofs.YtillhaipemengaaGreatDoor
open Go Go.RowKit Go.Proofs.YtillhaipemengaaGreatDoorW.PrintWords Go.Proofs.YtillhaipemengaaGreatDoorW.PrintLast
set_option linter.unusedVariables false
set_option linter.unusedSimpArgs false
section
variable {P : Program} {ops : Array Oper} {rest : List Oper} {o : Oper} {a : Act} {K : Act → World → Prop} {Q : Exit → Act → World → Prop} {W : World} {g : Nat} {e : TypeId} {cur : Array Value}
theorem load_run {ty : TypeId} {p : Operand} {d : TypeDesc} (ho : o.op = .load ty p) (hp : a.eval p = .pointer (some ⟨g, 0, none⟩)) (hg : W.heap[g]? = some (.cells cur e (0, 0)))
    (hu : P.underlying ty = some d) (hd : (match d with | .struct _ | .array _ _ => true | _ => false) = true) (hi : (P.info? ty).map (·.size) = some cur.size) : (execOp a.eval o).run P W = .ok (.value (.agg cur)) W := by
  have h := run_loadVar_row W g e ty cur (0, 0) d hg hu hd hi
  unfold execOp
  simp only [ho, hp, Instr.loadAt, Instr.sureAddr, Sem.run_bind, Sem.run_pure, Result.andThen_ok, h]
/-- A struct is loaded whole. -/
theorem load_ev {ty : TypeId} {p : Operand} {d : TypeDesc} (ho : o.op = .load ty p) (hgd : o.guard = none) (hp : a.eval p = .pointer (some ⟨g, 0, none⟩)) (hg : W.heap[g]? = some (.cells cur e (0, 0)))
    (hu : P.underlying ty = some d) (hd : (match d with | .struct _ | .array _ _ => true | _ => false) = true) (hi : (P.info? ty).map (·.size) = some cur.size) (h : wpList P ops Q rest (a.put o.dst (.agg cur)) W) : wpList P ops Q (o :: rest) a W :=
  Kd.event_run hgd (load_run ho hp hg hu hd hi) h
/-- A struct within a block is loaded. -/
theorem load_mid_ev {ty : TypeId} {p : Operand} {d : TypeDesc} {i : Nat} (ho : o.op = .load ty p) (hgd : o.guard = none) (hp : a.eval p = .pointer (some ⟨g, i, none⟩)) (hg : W.heap[g]? = some (.cells cur e (0, 0))) {seg : List Value} (hs : (cur.toList.drop i).take seg.length = seg)
    (hu : P.underlying ty = some d) (hd : d.isRow = true) (hi : (P.info? ty).map (·.size) = some seg.length) (h : wpList P ops Q rest (a.put o.dst (.agg seg.toArray)) W) : wpList P ops Q (o :: rest) a W := by
  refine Kd.event_run hgd ?_ h
  have hc : W.rangeAt g i seg := fun j v hv => by
    rw [blk_cell hg, ← Array.getElem?_toList]
    rw [← hs, List.getElem?_take] at hv
    split at hv
    · rwa [List.getElem?_drop] at hv
    · cases hv
  unfold execOp
  simp only [ho, hp, run_loadAt_mid W g i ty seg d hc hu hd hi, Sem.run_bind, Sem.run_pure, Result.andThen_ok]
theorem store_run (t : TypeId) (p x : Operand) (ho : o.op = .store t p x) (i : Nat) (seg : List Value) {u : Value} (hh : W.heap[g]? = some (.cells cur e (0, 0))) (haddr : a.eval p = .pointer (some ⟨g, i, none⟩)) (hx : a.eval x = u) (hu : u.cells.toList = seg) (ht : (P.info? t).map (·.size) = some seg.length) (hfit : i + seg.length ≤ cur.size) (h1 : ∀ q ∈ seg, q.oneCell' = true) :
    ∃ w1, (execOp a.eval o).run P W = .ok .skip w1 ∧ w1.heap[g]? = some (.cells (cur.toList.take i ++ (seg ++ cur.toList.drop (i + seg.length))).toArray e (0, 0)) ∧ W.grownBy w1 (some g) := by
  have hrun := run_store_run (P := P) (w := W) (o := i) t u seg hh hu ht (by omega) h1
  obtain ⟨cur', h2, h3, h4⟩ := setCells_row seg i W cur hh (by omega)
  refine ⟨W.setCells g i seg, ?_, ?_, ?_⟩
  · unfold execOp
    simp only [ho, haddr, hx, Sem.run_bind, Sem.run_pure, Result.andThen_ok, hrun]
  · rw [h2]
    congr 2
    apply Array.ext'
    rw [h4]
    simp
  · obtain ⟨s1, s2, s3, s4⟩ := setCells_same g seg i W
    exact ⟨s1, s2, s3, by rw [s4]; exact Nat.le_refl _, fun j _ hj => setCells_far seg i j (fun e => hj (by rw [e]))⟩
/-- What is stored at a place of a block: the cells then are those of 'cs'. -/
theorem store_ev (t : TypeId) (p x : Operand) (ho : o.op = .store t p x) (hgd : o.guard = none) (hN : o.dst = none) (i : Nat) (seg : List Value) {u : Value} {cs : Array Value} (hh : W.heap[g]? = some (.cells cur e (0, 0))) (haddr : a.eval p = .pointer (some ⟨g, i, none⟩)) (hx : a.eval x = u) (hu : u.cells.toList = seg) (ht : (P.info? t).map (·.size) = some seg.length) (hfit : i + seg.length ≤ cur.size) (h1 : ∀ q ∈ seg, q.oneCell' = true)
    (hcs : (cur.toList.take i ++ (seg ++ cur.toList.drop (i + seg.length))).toArray = cs)
    (h : ∀ w1, w1.heap[g]? = some (.cells cs e (0, 0)) → W.grownBy w1 (some g) → wpList P ops Q rest (a.put none undef) w1) : wpList P ops Q (o :: rest) a W := by
  obtain ⟨w1, hr, h2, h3⟩ := store_run (a := a) t p x ho i seg hh haddr hx hu ht hfit h1
  refine wpList_plain hgd fun K hK => ?_
  unfold Oper.wp
  rw [hr]
  show K (a.put o.dst undef) w1
  rw [hN]
  exact hK _ _ (h _ (hcs ▸ h2) h3)
theorem store_K (hw : Region.wanted o (yielded ops a.tmps) = true) (hN : o.dst = none) (t : TypeId) (p x : Operand) (ho : o.op = .store t p x) (i : Nat) (seg : List Value) {u : Value} {cs : Array Value} (hh : W.heap[g]? = some (.cells cur e (0, 0))) (haddr : a.eval p = .pointer (some ⟨g, i, none⟩)) (hx : a.eval x = u) (hu : u.cells.toList = seg) (ht : (P.info? t).map (·.size) = some seg.length) (hfit : i + seg.length ≤ cur.size) (h1 : ∀ q ∈ seg, q.oneCell' = true)
    (hcs : (cur.toList.take i ++ (seg ++ cur.toList.drop (i + seg.length))).toArray = cs)
    (h : ∀ w1, w1.heap[g]? = some (.cells cs e (0, 0)) → W.grownBy w1 (some g) → K (a.put none undef) w1) : if Region.wanted o (yielded ops a.tmps) = true then Oper.wp P o a W K Q else K (a.put none undef) W := by
  rw [if_pos hw]
  obtain ⟨w1, hr, h2, h3⟩ := store_run (a := a) t p x ho i seg hh haddr hx hu ht hfit h1
  unfold Oper.wp
  rw [hr]
  show K (a.put o.dst undef) w1
  rw [hN]
  exact h _ (hcs ▸ h2) h3
end
theorem twX {P : Program} {ops : Array Oper} {Q : Exit → Act → World → Prop} {S : World → Prop} {T : Bool × List (List Nat × List Nat)} {ds : List Nat} {n m fuel : Nat} {a : Act} {w : World} (HT : Aside0 (rtab .any ops = T)) (i j mi mj : Nat) (Ni Nj : Option Tmp) {oi oj : Oper}
    (h1 : ∀ K : Act → World → Prop, Shut (∀ a' w', S w' → (S w' → wpAnyLast P .any ops Q S ds fuel (bitsA n mi) a' w') → K a' w') → if Region.wanted oi (yielded ops a.tmps) = true then Oper.wp P oi a w K Q else K (a.put Ni undef) w)
    (h2 : ∀ K : Act → World → Prop, Shut (∀ a' w', S w' → (S w' → wpAnyLast P .any ops Q S ds fuel (bitsA n mj) a' w') → K a' w') → if Region.wanted oj (yielded ops a.tmps) = true then Oper.wp P oj a w K Q else K (a.put Nj undef) w)
    (hi : ops[i]? = some oi := by rfl) (hj : ops[j]? = some oj := by rfl) (hNi : oi.dst = Ni := by rfl) (hNj : oj.dst = Nj := by rfl)
    (hc : (readyT T.2 (bitsA n m).toList == [i, j] && (bitsA n m).toList.set i true == (bitsA n mi).toList && (bitsA n m).toList.set j true == (bitsA n mj).toList) = true := by kernel_rfl) (hdi : i ∉ ds := by decide) (hdj : j ∉ ds := by decide) : wpAnyLast P .any ops Q S ds (fuel + 1) (bitsA n m) a w :=
  two_ (bitsA n mi) (bitsA n mj) hi hj hNi hNj (two_of HT.out hc) hdi hdj h1 h2
end Go.Proofs.YtillhaipemengaaGreatDoor
end
