/- The texts MnSet in one file, without what these claims do not use (put together by prune2.py). -/
import Derived.Test.YtmbpefnhkimplaaGreatDoorZE37
section
namespace Go.Proofs.YtmbpefnhkimplaaGreatDoor
open Go Go.RowKit Go.Proofs.YtmbpefnhkimplaaGreatDoorW.PrintWords Go.Proofs.YtmbpefnhkimplaaGreatDoor.K0 Go.Proofs.YtmbpefnhkimplaaGreatDoor.R1 Go.Proofs.YtmbpefnhkimplaaGreatDoor.R2
set_option linter.unusedVariables false
set_option linter.unusedSimpArgs false
/-- x' knows what x knows, but for q's version, that is v, at pos; what stands behind it stands d further. -/
structure Sim (pos d : Int) (q : List UInt8) (v : S23) (x x' : Ps) : Prop where
  mod : x'.mod = x.mod
  rel : x'.rel = x.rel
  swaps : x'.swaps = x.swaps
  excl : x'.excl = x.excl
  retr : x'.retr = x.retr
  block : x'.block = x.block
  cnt : x'.cnt = x.cnt
  fro : x'.fro = x.fro + d
  reqs : x'.reqs = x.reqs.map fun r => if r.f0.data.toList = q then ⟨r.f0, v⟩ else r
  spots : ∀ p, x'.spots p = (x.spots p).map fun z => if pos < z then z + d else z
  hi : pos < x.fro
  hasq : (x.spots q).isSome = true
section
variable {pos d : Int} {q : List UInt8} {v : S23} {x x' : Ps}
theorem modP_sim (h : Sim pos d q v x x') (a : ByteArray) : (modP x' a).2 = (modP x a).2 ∧ Sim pos d q v (modP x a).1 (modP x' a).1 := by
  unfold modP
  rw [h.mod]
  split; · exact ⟨rfl, h⟩
  split; · exact ⟨rfl, h⟩
  exact ⟨rfl, ⟨rfl, h.rel, h.swaps, h.excl, h.retr, h.block, h.cnt, h.fro, h.reqs, h.spots, h.hi, h.hasq⟩⟩
theorem relP_sim (h : Sim pos d q v x x') (a : ByteArray) : (relP x' a).2 = (relP x a).2 ∧ Sim pos d q v (relP x a).1 (relP x' a).1 := by
  unfold relP
  rw [h.rel]
  repeat (split; · exact ⟨rfl, h⟩)
  exact ⟨rfl, ⟨h.mod, rfl, h.swaps, h.excl, h.retr, h.block, h.cnt, h.fro, h.reqs, h.spots, h.hi, h.hasq⟩⟩
theorem excP_sim (h : Sim pos d q v x x') (r : Rq) (e : Int) : (excP x' r e).2 = (excP x r e).2 ∧ Sim pos d q v (excP x r e).1 (excP x' r e).1 := by
  unfold excP
  rw [h.excl]
  split; · exact ⟨rfl, h⟩
  exact ⟨rfl, ⟨h.mod, h.rel, h.swaps, rfl, h.retr, h.block, h.cnt, h.fro, h.reqs, h.spots, h.hi, h.hasq⟩⟩
theorem repP_sim (h : Sim pos d q v x x') (a b : ByteArray) : (repP x' a b).2 = (repP x a b).2 ∧ Sim pos d q v (repP x a b).1 (repP x' a b).1 := by
  unfold repP
  rw [h.swaps]
  repeat (split; · exact ⟨rfl, h⟩)
  exact ⟨rfl, ⟨h.mod, h.rel, rfl, h.excl, h.retr, h.block, h.cnt, h.fro, h.reqs, h.spots, h.hi, h.hasq⟩⟩
theorem retP_sim (h : Sim pos d q v x x') (a b : ByteArray) : (retP x' a b).2 = (retP x a b).2 ∧ Sim pos d q v (retP x a b).1 (retP x' a b).1 := by
  unfold retP
  rw [h.retr]
  exact ⟨rfl, ⟨h.mod, h.rel, h.swaps, h.excl, rfl, h.block, h.cnt, h.fro, h.reqs, h.spots, h.hi, h.hasq⟩⟩
theorem rqrP_sim (h : Sim pos d q v x x') (r : Rq) (e z : Int) (hz : 0 ≤ z) : (rqrP x' r e z).2 = (rqrP x r e z).2 ∧ Sim pos d q v (rqrP x r e z).1 (rqrP x' r e z).1 := by
  unfold rqrP
  split; · exact ⟨rfl, h⟩
  rw [h.spots, Option.isSome_map]
  split; · exact ⟨rfl, h⟩
  rename_i hn
  have hq : r.f0.data.toList ≠ q := fun e => hn (by rw [e]; exact h.hasq)
  have hi := h.hi
  refine ⟨rfl, ⟨h.mod, h.rel, h.swaps, h.excl, h.retr, h.block, by show x'.cnt + 1 = x.cnt + 1; rw [h.cnt], h.fro, ?_, fun p => ?_, h.hi, ?_⟩⟩
  · show x'.reqs ++ [r] = (x.reqs ++ [r]).map _
    rw [List.map_append, h.reqs, List.map_cons, if_neg hq]
    rfl
  · simp only [addR]
    by_cases hp : r.f0.data.toList = p
    · rw [if_pos hp, if_pos hp, h.fro, Option.map_some, if_pos (by omega)]
      congr 1; omega
    · rw [if_neg hp, if_neg hp]
      exact h.spots p
  · simp only [addR]
    rw [if_neg hq]
    exact h.hasq
theorem doK_sim (h : Sim pos d q v x x') (k : Nat) {ws : List Wd} (hw : WsOk ws) : (doK x' k ws).2 = (doK x k ws).2 ∧ Sim pos d q v (doK x k ws).1 (doK x' k ws).1 := by
  unfold doK
  split
  · exact modP_sim h _
  · exact relP_sim h _
  · exact rqrP_sim h _ _ _ (wAt_at hw 1).1
  · exact excP_sim h _ _
  · exact repP_sim h _ _
  · split <;> exact retP_sim h _ _
theorem stmtP_sim (h : Sim pos d q v x x') (b : ByteArray) {ws : List Wd} (hw : WsOk ws) : (stmtP x' b ws).2 = (stmtP x b ws).2 ∧ Sim pos d q v (stmtP x b ws).1 (stmtP x' b ws).1 := by
  unfold stmtP
  split
  · exact doK_sim h _ hw
  · exact ⟨rfl, h⟩
theorem lineP_sim (h : Sim pos d q v x x') {ws : List Wd} (hw : WsOk ws) : (lineP x' ws).2 = (lineP x ws).2 ∧ Sim pos d q v (lineP x ws).1 (lineP x' ws).1 := by
  have hb : ∀ b, Sim pos d q v { x with block := b } { x' with block := b } := fun b => ⟨h.mod, h.rel, h.swaps, h.excl, h.retr, rfl, h.cnt, h.fro, h.reqs, h.spots, h.hi, h.hasq⟩
  unfold lineP
  split
  · exact ⟨rfl, h⟩
  · rw [h.block]
    split
    · split
      · exact ⟨rfl, hb _⟩
      · exact stmtP_sim h _ hw
    · split
      · exact ⟨rfl, hb _⟩
      · exact stmtP_sim h _ hw.tail
theorem nextP_sim (h : Sim pos d q v x x') {s : ByteArray} (hs : s.size ≤ 400000) : Sim pos d q v (nextP x s) (nextP x' s) := by
  have h1 := (lineP_sim h (words_ok s hs)).2
  have h2 := h1.hi
  exact ⟨h1.mod, h1.rel, h1.swaps, h1.excl, h1.retr, h1.block, h1.cnt, by show (lineP x' (wordsOf s)).1.fro + _ = (lineP x (wordsOf s)).1.fro + _ + d; rw [h1.fro]; omega, h1.reqs, h1.spots, by show pos < (lineP x (wordsOf s)).1.fro + _; omega, h1.hasq⟩
end
theorem runP_sim {pos d : Int} {q : List UInt8} {v : S23} : ∀ {l : List ByteArray} {k : Nat} {x x' y : Ps}, (∀ s ∈ l, s.size ≤ 400000) → Sim pos d q v x x' → runP k l x = .inl y → ∃ y', runP k l x' = .inl y' ∧ Sim pos d q v y y'
  | [], k, x, x', y, _, h, hr => by
    obtain rfl := Sum.inl.inj hr
    exact ⟨x', rfl, h⟩
  | s :: l, k, x, x', y, hs, h, hr => by
    have h9 := hs s List.mem_cons_self
    have hl := lineP_sim h (words_ok s h9)
    unfold runP at hr
    split at hr
    · rename_i h0
      obtain ⟨y', h1, h2⟩ := runP_sim (fun z hz => hs z (List.mem_cons_of_mem _ hz)) (nextP_sim h h9) hr
      exact ⟨y', by unfold runP; rw [if_pos (by rw [hl.1]; exact h0)]; exact h1, h2⟩
    · cases hr
theorem runP_append : ∀ (l1 l2 : List ByteArray) (k : Nat) (x : Ps), runP k (l1 ++ l2) x = match runP k l1 x with | .inl y => runP (k + l1.length) l2 y | .inr e => .inr e
  | [], l2, k, x => rfl
  | s :: l1, l2, k, x => by
    rw [List.cons_append, runP, runP]
    split
    · rw [runP_append l1 l2 (k + 1), show k + 1 + l1.length = k + (s :: l1).length by simp; omega]
    · rfl
/-- The line at which a path came to be required. -/
theorem runP_find : ∀ {l : List ByteArray} {k : Nat} {x y : Ps} {q : List UInt8} {z : Int}, (∀ s ∈ l, s.size ≤ 400000) → runP k l x = .inl y → y.spots q = some z → x.spots q = none →
    ∃ l1 s l2 x1 W a b, l = l1 ++ s :: l2 ∧ runP k l1 x = .inl x1 ∧ wordsOf s = W ++ [a, b] ∧ a.f0.data.toList = q ∧ z = x1.fro + b.f1 ∧ shapeOf b = [120] ∧ (reqP a.f0 b.f0).2 = 0 ∧ x1.spots q = none ∧ lineP x1 (wordsOf s) = (addR x1 ⟨a.f0, verP b.f0⟩ b.f1, 0) ∧ ∀ b', shapeOf b' = [120] → (reqP a.f0 b'.f0).2 = 0 → lineP x1 (W ++ [a, b']) = (addR x1 ⟨a.f0, verP b'.f0⟩ b'.f1, 0)
  | [], k, x, y, q, z, _, hr, hz, hn => by
    obtain rfl := Sum.inl.inj hr
    rw [hn] at hz; cases hz
  | s :: l, k, x, y, q, z, hs, hr, hz, hn => by
    have h9 := hs s List.mem_cons_self
    unfold runP at hr
    split at hr
    · rename_i h0
      cases hq : (nextP x s).spots q with
      | none =>
        obtain ⟨l1, s', l2, x1, W, a, b, e1, e2, h⟩ := runP_find (fun z hz => hs z (List.mem_cons_of_mem _ hz)) hr hz hq
        exact ⟨s :: l1, s', l2, x1, W, a, b, by rw [e1]; rfl, by unfold runP; rw [if_pos h0]; exact e2, h⟩
      | some z' =>
        have hkeep : ∀ {l : List ByteArray} {k : Nat} {x y : Ps}, (∀ s ∈ l, s.size ≤ 400000) → runP k l x = .inl y → ∀ z', x.spots q = some z' → y.spots q = some z' := by
          intro l
          induction l with
          | nil => intro k x y _ hr z' h; obtain rfl := Sum.inl.inj hr; exact h
          | cons t l ih =>
            intro k x y hs hr z' h
            unfold runP at hr
            split at hr
            · rename_i h0
              refine ih (fun z hz => hs z (List.mem_cons_of_mem _ hz)) hr z' ?_
              show (lineP x (wordsOf t)).1.spots q = some z'
              rcases lineP_R x (wordsOf t) (words_ok t (hs t List.mem_cons_self)).one h0 with ⟨h1, _⟩ | ⟨W, a, b, _, _, _, h3, h4, _⟩
              · rw [h1]; exact h
              · rw [h4]
                simp only [addR]
                rw [if_neg (fun e => by rw [e, h] at h3; cases h3)]
                exact h
            · cases hr
        have hz' := hkeep (fun z hz => hs z (List.mem_cons_of_mem _ hz)) hr z' hq
        rw [hz] at hz'
        obtain rfl := Option.some.inj hz'
        rcases lineP_R x (wordsOf s) (words_ok s h9).one h0 with ⟨h1, _⟩ | ⟨W, a, b, e, h1, h2, h3, h4, h5⟩
        · have : (nextP x s).spots q = x.spots q := congrFun h1 q
          rw [this, hn] at hq
          cases hq
        · have hq2 : (nextP x s).spots q = (addR x ⟨a.f0, verP b.f0⟩ b.f1).spots q := by show (lineP x (wordsOf s)).1.spots q = _; rw [h4]
          rw [hq2] at hq
          simp only [addR] at hq
          by_cases hp : a.f0.data.toList = q
          · rw [if_pos hp] at hq
            refine ⟨[], s, l, x, W, a, b, rfl, rfl, e, hp, (Option.some.inj hq).symm, h1, h2, hn, Prod.ext h4 h0, h5⟩
          · rw [if_neg hp, hn] at hq
            cases hq
    · cases hr
theorem runP_reqs {r : Rq} : ∀ {l : List ByteArray} {k : Nat} {x y : Ps}, (∀ s ∈ l, s.size ≤ 400000) → runP k l x = .inl y → r ∈ x.reqs → r ∈ y.reqs
  | [], k, x, y, _, hr, h => by obtain rfl := Sum.inl.inj hr; exact h
  | s :: l, k, x, y, hs, hr, h => by
    unfold runP at hr
    split at hr
    · rename_i h0
      refine runP_reqs (fun z hz => hs z (List.mem_cons_of_mem _ hz)) hr ?_
      show r ∈ (lineP x (wordsOf s)).1.reqs
      rcases lineP_R x (wordsOf s) (words_ok s (hs s List.mem_cons_self)).one h0 with ⟨_, h1⟩ | ⟨W, a, b, _, _, _, _, h4, _⟩
      · rw [h1]; exact h
      · rw [h4]; exact List.mem_append.2 (.inl h)
    · cases hr
theorem good_line {y : ByteArray} : oneW y ≠ none ↔ y.data.toList.any oddB = false := by
  rw [oneW_eq]
  unfold lineL
  cases y.data.toList.any oddB <;> simp
theorem badL_iff {l : List ByteArray} : badL l = none ↔ ∀ y ∈ l, y.data.toList.any oddB = false := by
  constructor
  · intro h y hy
    have := List.findIdx?_eq_none_iff.1 h y hy
    rw [← good_line]
    intro e
    rw [e] at this
    cases this
  · intro h
    unfold badL
    rw [List.findIdx?_eq_none_iff]
    intro y hy
    cases ho : oneW y with
    | none => exact absurd ho (good_line.2 (h y hy))
    | some _ => rfl
theorem rows_data (s : ByteArray) : (rowsW s).map (fun y => y.data.toList) = linesOf s.data.toList := by
  unfold rowsW
  rw [List.map_map, show (fun y : ByteArray => y.data.toList) ∘ ba = id from rfl, List.map_id]
theorem rows_of {s : ByteArray} {l : List ByteArray} (h : linesOf s.data.toList = l.map fun y => y.data.toList) : rowsW s = l := by
  unfold rowsW
  rw [h, List.map_map, show ba ∘ (fun y : ByteArray => y.data.toList) = id from rfl, List.map_id]
theorem txV_head {v : S23} (h : okV v = true) : (txV v).data.toList ≠ [61, 62] := by
  rw [txV_eq h]
  intro e
  have := (List.cons.inj e).1
  revert this; decide
/-- An edit of one version. -/
theorem set_main {s : ByteArray} (hs : s.size ≤ 400000) {x : Ps} {n : Nat} (hm : ManIs s x n) {q : ByteArray} {z : Int} (hz : x.spots q.data.toList = some z) {v : S23} (hv : rightP ⟨q, v⟩ = 0) :
    ∃ r A B, r ∈ x.reqs ∧ r.f0 = q ∧ s.data.toList = A ++ ((txV r.f1).data.toList ++ B) ∧ (A.length : Int) = z ∧ ∀ t : ByteArray, t.data.toList = A ++ ((txV v).data.toList ++ B) → t.size ≤ 400000 → ∃ x', ManIs t x' n ∧ Sim z (((txV v).size : Int) - ((txV r.f1).size : Int)) q.data.toList v x x' := by
  have hrs : ∀ y ∈ rowsW s, y.size ≤ 400000 := fun y hy => Nat.le_trans (rowsW_size hy) hs
  obtain ⟨l1, y, l2, x1, W, a, b, e1, e2, e3, e4, e5, e6, e7, e8, e9, e10⟩ := runP_find hrs hm.run hz rfl
  have haq : a.f0 = q := by_data e4
  have hok := rightP_ok hv
  obtain ⟨_, hvi, _⟩ := reqP_ok e7
  obtain ⟨hov, htx⟩ := verP_text hvi
  have hpl : plW b.f0.data.toList = true := by have := txV_word hov; rwa [htx] at this
  have hy9 := hrs y (by rw [e1]; simp)
  have hclean := words_clean (y := y) (by rw [e3]; simp)
  obtain ⟨pre, post, i1, i2, i3⟩ := words_last hclean (W := W ++ [a]) (b := b) (by rw [ba_of, e3]; simp) hpl
  obtain ⟨i4, i5⟩ := i3 _ (txV_word hok.2.1)
  have hT1 := runP_T (fun z hz => hrs z (by rw [e1]; exact List.mem_append.2 (.inl hz))) PsT.zero e2
  rw [List.nil_append] at hT1
  have hld := rows_data s
  rw [e1, List.map_append, List.map_cons] at hld
  obtain ⟨R, j1, j2, j3⟩ := lines_at _ s.data.toList (Nat.le_refl _) l1.length y.data.toList (by rw [← hld]; simp)
  rw [← hld, show (List.map (fun y : ByteArray => y.data.toList) l1 ++ y.data.toList :: List.map (fun y => y.data.toList) l2).take l1.length = l1.map fun y => y.data.toList by rw [List.take_append_of_le_length (by simp)]; exact List.take_of_length_le (by simp)] at j1
  rw [← hld, show (List.map (fun y : ByteArray => y.data.toList) l1 ++ y.data.toList :: List.map (fun y => y.data.toList) l2).drop (l1.length + 1) = l2.map fun y => y.data.toList by rw [List.drop_append]; simp] at j3
  have hno := lines_no _ s.data.toList (Nat.le_refl _)
  rw [← hld] at hno
  have hw' := plW_of (txV_word hok.2.1)
  have hy10 : (10 : UInt8) ∉ y.data.toList := hno _ (by simp)
  rw [i1] at hy10
  have hmem : (⟨q, verP b.f0⟩ : Rq) ∈ x.reqs := by
    have hrun := hm.run
    rw [e1, runP_append, e2] at hrun
    simp only [runP] at hrun
    rw [if_pos (by rw [e9])] at hrun
    refine runP_reqs (fun z hz => hrs z (by rw [e1]; exact List.mem_append.2 (.inr (List.mem_cons_of_mem _ hz)))) hrun ?_
    show _ ∈ (lineP x1 (wordsOf y)).1.reqs
    rw [e9, haq]
    simp [addR]
  refine ⟨⟨q, verP b.f0⟩, unlR l1 ++ pre, post ++ R, hmem, rfl, ?_, ?_, fun t ht hts => ?_⟩
  · rw [j1, htx, i1]
    unfold unlR
    simp
  · rw [e5, hT1.fro, i2]; simp
  · obtain ⟨y', hy'⟩ : ∃ y', y' = ba (pre ++ ((txV v).data.toList ++ post)) := ⟨_, rfl⟩
    have hyd : y'.data.toList = pre ++ ((txV v).data.toList ++ post) := by rw [hy']; rfl
    have hlt : linesOf t.data.toList = (l1 ++ y' :: l2).map fun y => y.data.toList := by
      rw [ht, show unlR l1 ++ pre ++ ((txV v).data.toList ++ (post ++ R)) = unl (l1.map fun y => y.data.toList) ++ (y'.data.toList ++ R) by rw [hyd]; unfold unlR; simp, lines_unl _ (fun u hu => hno u (List.mem_append.2 (.inl hu))), lines_line (by
        rw [hyd]
        intro h
        rcases List.mem_append.1 h with h | h
        · exact hy10 (List.mem_append.2 (.inl h))
        · rcases List.mem_append.1 h with h | h
          · exact hw'.2.2.2.2 h
          · exact hy10 (List.mem_append.2 (.inr (List.mem_append.2 (.inr h))))) (by
        rw [hyd]
        intro h
        exact hw'.1 (List.append_eq_nil_iff.1 (List.append_eq_nil_iff.1 h).2).1) j2, j3]
      simp
    have hrows := rows_of hlt
    have hb' : (⟨ba (txV v).data.toList, b.f1⟩ : Wd) = toWd ((txV v).data.toList, pre.length) := by rw [i2]; rfl
    have hsh : shapeOf ⟨ba (txV v).data.toList, b.f1⟩ = [120] := by rw [hb', shape_word hw'.1 hw'.2.1, if_neg (txV_head hok.2.1)]
    have hreq : reqP a.f0 (txV v) = (⟨q, v⟩, 0) := by rw [haq]; exact reqP_of hv
    have hvp : verP (txV v) = v := (verP_of hok.2.1).2
    have hwo : wordsOf y' = W ++ [a, ⟨txV v, b.f1⟩] := by rw [hy', i5]; simp [ba_of]
    have hlp : lineP x1 (wordsOf y') = (addR x1 ⟨q, v⟩ b.f1, 0) := by
      have h := e10 ⟨ba (txV v).data.toList, b.f1⟩ hsh (by show (reqP a.f0 (ba (txV v).data.toList)).2 = 0; rw [ba_of, hreq])
      rw [ba_of] at h
      rw [hwo, h, hvp, haq]
    have hys : y'.data.toList.length + b.f0.data.toList.length = y.data.toList.length + (txV v).data.toList.length := by rw [hyd, i1]; simp only [List.length_append]; omega
    have hsim : Sim z (((txV v).size : Int) - ((txV (verP b.f0)).size : Int)) q.data.toList v (nextP x1 y) (nextP x1 y') := by
      have n1 : nextP x1 y = { addR x1 ⟨q, verP b.f0⟩ b.f1 with fro := x1.fro + ((y.size : Int) + 1) } := by unfold nextP; rw [e9, haq]; rfl
      have n2 : nextP x1 y' = { addR x1 ⟨q, v⟩ b.f1 with fro := x1.fro + ((y'.size : Int) + 1) } := by unfold nextP; rw [hlp]; rfl
      have hb0 : 0 ≤ b.f1 := by rw [i2]; omega
      have hpl2 : pre.length ≤ y.data.toList.length := by rw [i1]; simp
      rw [n1, n2]
      refine ⟨rfl, rfl, rfl, rfl, rfl, rfl, rfl, ?_, ?_, fun p => ?_, ?_, ?_⟩
      · show x1.fro + ((y'.size : Int) + 1) = x1.fro + ((y.size : Int) + 1) + _
        rw [htx, Lib.size_eq y', Lib.size_eq y, Lib.size_eq (txV v), Lib.size_eq b.f0]
        omega
      · show x1.reqs ++ [(⟨q, v⟩ : Rq)] = (x1.reqs ++ [(⟨q, verP b.f0⟩ : Rq)]).map _
        rw [List.map_append, List.map_cons, if_pos rfl]
        congr 1
        refine (List.map_id x1.reqs).symm.trans (List.map_congr_left fun r hr => ?_)
        rw [if_neg]
        · rfl
        · intro e
          have := hT1.has r hr
          rw [e, e8] at this
          cases this
      · simp only [addR]
        by_cases hp : q.data.toList = p
        · rw [if_pos hp, Option.map_some, if_neg (by rw [e5]; omega)]
        · rw [if_neg hp]
          cases hx : x1.spots p with
          | none => rfl
          | some u =>
            obtain ⟨r, _, _, A, B, k1, k2, k3⟩ := hT1.spot p u hx
            have h1 := hT1.fro
            rw [k1] at h1
            simp only [List.length_append] at h1
            have h2 : 0 < B.length := List.length_pos_iff.2 k3
            rw [Option.map_some, if_neg (by rw [e5]; omega)]
      · show z < x1.fro + ((y.size : Int) + 1)
        rw [e5, Lib.size_eq y]; omega
      · simp [addR]
    have hrun := hm.run
    rw [e1, runP_append, e2] at hrun
    simp only [runP] at hrun
    rw [if_pos (by rw [e9])] at hrun
    obtain ⟨x', r1, r2⟩ := runP_sim (fun z hz => hrs z (by rw [e1]; exact List.mem_append.2 (.inr (List.mem_cons_of_mem _ hz)))) hsim hrun
    have hrt : runP 0 (rowsW t) ps0 = .inl x' := by
      rw [hrows, runP_append, e2]
      simp only [runP]
      rw [if_pos (by rw [hlp])]
      exact r1
    have htt := runP_T (fun y hy => Nat.le_trans (rowsW_size hy) hts) PsT.zero hrt
    refine ⟨x', ⟨htt, hrt, ?_, by rw [r2.block]; exact hm.block, by rw [r2.mod]; exact hm.mod, ?_⟩, r2⟩
    · rw [hm.rows, e1, hrows]; simp
    · rw [hrows, badL_iff]
      intro u hu
      have hbs := badL_iff.1 hm.bad
      rw [e1] at hbs
      rcases List.mem_append.1 hu with hu | hu
      · exact hbs u (List.mem_append.2 (.inl hu))
      · rcases List.mem_cons.1 hu with rfl | hu
        · rw [hyd]; exact i4
        · exact hbs u (List.mem_append.2 (.inr (List.mem_cons_of_mem _ hu)))
end Go.Proofs.YtmbpefnhkimplaaGreatDoor
end
