/- The texts MnInv in one file, without what these claims do not use (put together by prune2.py). -/
import Derived.Test.YtmbpefnhkimplaaGreatDoorZE35
section
namespace Go.Proofs.YtmbpefnhkimplaaGreatDoor
open Go Go.RowKit Go.Proofs.YtmbpefnhkimplaaGreatDoorW.PrintWords Go.Proofs.YtmbpefnhkimplaaGreatDoor.K0 Go.Proofs.YtmbpefnhkimplaaGreatDoor.R1 Go.Proofs.YtmbpefnhkimplaaGreatDoor.R2
set_option linter.unusedVariables false
set_option linter.unusedSimpArgs false
/-- Is a requirement asked for rightly (0: yes)? -/
def fitV (p : ByteArray) (v : S23) : Bool := fitsOk p v.f0 v.f1 v.f2 v.f3 v.f4
def rightP (r : Rq) : Int := if checkOk r.f0 = false then 6 else if okV r.f1 = false then 7 else if fitV r.f0 r.f1 = false then 8 else 0
theorem rightP_ok {r : Rq} (h : rightP r = 0) : checkOk r.f0 = true ∧ okV r.f1 = true ∧ fitV r.f0 r.f1 = true := by
  unfold rightP at h
  split at h
  · cases h
  · split at h
    · cases h
    · split at h
      · cases h
      · rename_i h1 h2 h3
        exact ⟨by rwa [Bool.not_eq_false] at h1, by rwa [Bool.not_eq_false] at h2, by rwa [Bool.not_eq_false] at h3⟩
theorem rightP_of {r : Rq} (h1 : checkOk r.f0 = true) (h2 : okV r.f1 = true) (h3 : fitV r.f0 r.f1 = true) : rightP r = 0 := by unfold rightP; rw [h1, h2, h3]; rfl
theorem reqP_ok {a b : ByteArray} (h : (reqP a b).2 = 0) : reqP a b = (⟨a, verP b⟩, 0) ∧ verI b = true ∧ rightP ⟨a, verP b⟩ = 0 := by
  unfold reqP at h ⊢
  split at h
  · cases h
  · split at h
    · cases h
    · split at h
      · cases h
      · rename_i h1 h2 h3
        rw [if_neg h1, if_neg h2, if_neg h3]
        rw [Bool.not_eq_false] at h1 h2 h3
        exact ⟨rfl, h2, rightP_of h1 (verP_text h2).1 h3⟩
theorem reqP_of {a : ByteArray} {v : S23} (h : rightP ⟨a, v⟩ = 0) : reqP a (txV v) = (⟨a, v⟩, 0) := by
  obtain ⟨h1, h2, h3⟩ := rightP_ok h
  obtain ⟨h4, h5⟩ := verP_of h2
  unfold reqP
  rw [h1, h4, h5]
  show (if true = false then _ else if true = false then _ else if fitV a v = false then _ else _) = _
  rw [show fitV a v = true from h3]
  rfl
theorem modP_S (x : Ps) (a : ByteArray) : (modP x a).1.spots = x.spots ∧ (modP x a).1.reqs = x.reqs := by
  unfold modP; repeat (split; · exact ⟨rfl, rfl⟩)
  exact ⟨rfl, rfl⟩
theorem relP_S (x : Ps) (a : ByteArray) : (relP x a).1.spots = x.spots ∧ (relP x a).1.reqs = x.reqs := by
  unfold relP; repeat (split; · exact ⟨rfl, rfl⟩)
  exact ⟨rfl, rfl⟩
theorem excP_S (x : Ps) (r : Rq) (e : Int) : (excP x r e).1.spots = x.spots ∧ (excP x r e).1.reqs = x.reqs := by
  unfold excP; repeat (split; · exact ⟨rfl, rfl⟩)
  exact ⟨rfl, rfl⟩
theorem repP_S (x : Ps) (a d : ByteArray) : (repP x a d).1.spots = x.spots ∧ (repP x a d).1.reqs = x.reqs := by
  unfold repP; repeat (split; · exact ⟨rfl, rfl⟩)
  exact ⟨rfl, rfl⟩
/-- A statement adds no requirement, or it is one. -/
theorem stmtP_R (x : Ps) (v : ByteArray) (ws : List Wd) (hw : ∀ y ∈ ws, (shapeOf y).length = 1) (h0 : (stmtP x v ws).2 = 0) :
    ((stmtP x v ws).1.spots = x.spots ∧ (stmtP x v ws).1.reqs = x.reqs) ∨
    ∃ a b, ws = [a, b] ∧ shapeOf b = [120] ∧ (reqP a.f0 b.f0).2 = 0 ∧ x.spots a.f0.data.toList = none ∧ (stmtP x v ws).1 = addR x ⟨a.f0, verP b.f0⟩ b.f1 ∧ ∀ b', shapeOf b' = [120] → (reqP a.f0 b'.f0).2 = 0 → stmtP x v [a, b'] = (addR x ⟨a.f0, verP b'.f0⟩ b'.f1, 0) := by
  unfold stmtP at h0 ⊢
  by_cases hs : (shapesK (verbK v.data.toList)).contains (shapeW ws) = true
  · rw [if_pos hs] at h0 ⊢
    generalize verbK v.data.toList = k at hs h0 ⊢
    match k, hs, h0 with
    | 0, _, _ => exact .inl (modP_S _ _)
    | 1, _, _ => exact .inl (relP_S _ _)
    | 3, _, _ => exact .inl (excP_S _ _ _)
    | 4, _, _ => exact .inl (repP_S _ _ _)
    | k + 5, _, _ =>
      left
      show (if 1 < ws.length then _ else _ : Ps × Int).1.spots = _ ∧ (if 1 < ws.length then _ else _ : Ps × Int).1.reqs = _
      split <;> exact ⟨rfl, rfl⟩
    | 2, hs, h0 =>
      have h2 : shapeW ws = [120, 120] := by simpa [shapesK] using hs
      have hl := shapeW_one hw
      rw [h2] at hl
      match ws, hl, h0, h2, hw with
      | [a, b], _, h0, h2, hw =>
        have ha := hw a (by simp)
        have hb := hw b (by simp)
        have h3 : shapeOf a ++ shapeOf b = [120, 120] := by have h := h2; unfold shapeW at h; simpa using h
        have hsa : shapeOf a = [120] := by
          match hq : shapeOf a, ha with
          | [c], _ => rw [hq] at h3; simp at h3; rw [h3.1]
        have hsb : shapeOf b = [120] := by rw [hsa] at h3; simpa using h3
        have h0' : (rqrP x (reqP a.f0 b.f0).1 (reqP a.f0 b.f0).2 b.f1).2 = 0 := h0
        have he : (reqP a.f0 b.f0).2 = 0 := by
          unfold rqrP at h0'
          split at h0'
          · exact h0'
          · rename_i h; exact Decidable.not_not.1 h
        have hr := (reqP_ok he).1
        have hn : x.spots a.f0.data.toList = none := by
          rw [hr] at h0'
          unfold rqrP at h0'
          rw [if_neg (by simp)] at h0'
          split at h0'
          · cases h0'
          · rename_i h; simpa using h
        have key : ∀ b', (reqP a.f0 b'.f0).2 = 0 → doK x 2 [a, b'] = (addR x ⟨a.f0, verP b'.f0⟩ b'.f1, 0) := fun b' hb' => by
          show rqrP x (reqP a.f0 b'.f0).1 (reqP a.f0 b'.f0).2 b'.f1 = _
          rw [(reqP_ok hb').1]
          unfold rqrP
          rw [if_neg (by simp)]
          show (if (x.spots a.f0.data.toList).isSome = true then _ else _) = _
          rw [hn]
          rfl
        refine .inr ⟨a, b, rfl, hsb, he, hn, by rw [key b he], fun b' hs' hb' => ?_⟩
        rw [if_pos (by unfold shapeW; simp [hsa, hs', shapesK])]
        exact key b' hb'
  · rw [if_neg hs] at h0
    cases h0
/-- A line adds no requirement, or it is one: its last two words are its path and its version. -/
theorem lineP_R (x : Ps) (ws : List Wd) (hw : ∀ y ∈ ws, (shapeOf y).length = 1) (h0 : (lineP x ws).2 = 0) :
    ((lineP x ws).1.spots = x.spots ∧ (lineP x ws).1.reqs = x.reqs) ∨
    ∃ W a b, ws = W ++ [a, b] ∧ shapeOf b = [120] ∧ (reqP a.f0 b.f0).2 = 0 ∧ x.spots a.f0.data.toList = none ∧ (lineP x ws).1 = addR x ⟨a.f0, verP b.f0⟩ b.f1 ∧ ∀ b', shapeOf b' = [120] → (reqP a.f0 b'.f0).2 = 0 → lineP x (W ++ [a, b']) = (addR x ⟨a.f0, verP b'.f0⟩ b'.f1, 0) := by
  match ws, hw, h0 with
  | [], _, _ => exact .inl ⟨rfl, rfl⟩
  | c :: l, hw, h0 =>
    unfold lineP at h0 ⊢
    simp only at h0 ⊢
    by_cases hb : x.block.toList.isEmpty = false
    · rw [if_pos hb] at h0 ⊢
      by_cases hc : (l.isEmpty && (c.f0.toList == [41])) = true
      · rw [if_pos hc]; exact .inl ⟨rfl, rfl⟩
      · rw [if_neg hc] at h0 ⊢
        rcases stmtP_R x x.block (c :: l) hw h0 with h | ⟨a, b, e, h1, h2, h3, h4, h5⟩
        · exact .inl h
        · obtain ⟨rfl, rfl⟩ := List.cons.inj e
          refine .inr ⟨[], c, b, rfl, h1, h2, h3, h4, fun b' hs' hb' => ?_⟩
          show lineP x [c, b'] = _
          unfold lineP
          simp only
          rw [if_pos hb, if_neg (by simp)]
          exact h5 b' hs' hb'
    · rw [if_neg hb] at h0 ⊢
      by_cases hc : (decide (l.length = 1) && ((wAt l 0).f0.toList == [40]) && blockK (verbK c.f0.data.toList)) = true
      · rw [if_pos hc]; exact .inl ⟨rfl, rfl⟩
      · rw [if_neg hc] at h0 ⊢
        rcases stmtP_R x c.f0 l (fun y hy => hw y (List.mem_cons_of_mem _ hy)) h0 with h | ⟨a, b, rfl, h1, h2, h3, h4, h5⟩
        · exact .inl h
        · refine .inr ⟨[c], a, b, rfl, h1, h2, h3, h4, fun b' hs' hb' => ?_⟩
          show lineP x (c :: [a, b']) = _
          unfold lineP
          simp only
          rw [if_neg hb, if_neg (by simp)]
          exact h5 b' hs' hb'
/-- What is known behind lines, by their text. -/
structure PsT (T : List UInt8) (x : Ps) : Prop where
  fro : x.fro = (T.length : Int)
  spot : ∀ q z, x.spots q = some z → ∃ r ∈ x.reqs, r.f0.data.toList = q ∧ ∃ a b, T = a ++ ((txV r.f1).data.toList ++ b) ∧ (a.length : Int) = z ∧ b ≠ []
  ok : ∀ r ∈ x.reqs, rightP r = 0
  one : ∀ r ∈ x.reqs, ∀ r' ∈ x.reqs, r.f0.data.toList = r'.f0.data.toList → r = r'
  has : ∀ r ∈ x.reqs, (x.spots r.f0.data.toList).isSome = true
theorem PsT.zero : PsT [] ps0 := ⟨rfl, fun _ _ h => (by cases h), fun _ h => (by cases h), fun _ h => (by cases h), fun _ h => (by cases h)⟩
theorem words_clean {y : ByteArray} (h : wordsOf y ≠ []) : y.data.toList.any oddB = false := by
  rw [wordsOf_eq] at h
  split at h
  · exact absurd rfl h
  · rename_i h2; rwa [Bool.not_eq_true] at h2
theorem lineP_fro (x : Ps) (ws : List Wd) : (lineP x ws).1.fro = x.fro := (lineP_G x ws).1.fro
theorem PsT.line {T : List UInt8} {x : Ps} (h : PsT T x) (y : ByteArray) (hy : y.size ≤ 400000) (h0 : (lineP x (wordsOf y)).2 = 0) : PsT (T ++ (y.data.toList ++ [10])) (nextP x y) := by
  have hfr : (nextP x y).fro = ((T ++ (y.data.toList ++ [10])).length : Int) := by
    show (lineP x (wordsOf y)).1.fro + ((y.size : Int) + 1) = _
    rw [lineP_fro, h.fro, Lib.size_eq]
    simp only [List.length_append, List.length_cons, List.length_nil]; omega
  rcases lineP_R x (wordsOf y) (words_ok y hy).one h0 with ⟨h1, h2⟩ | ⟨W, a, b, e, _, h2, h3, h4, _⟩
  · refine ⟨hfr, fun q z hz => ?_, ?_, ?_, ?_⟩
    · obtain ⟨r, hr, e1, u, v, e2, e3, e4⟩ := h.spot q z (h1 ▸ hz)
      exact ⟨r, h2 ▸ hr, e1, u, v ++ (y.data.toList ++ [10]), by rw [e2]; simp, e3, by simp⟩
    · exact fun r hr => h.ok r (h2 ▸ hr)
    · exact fun r hr r' hr' => h.one r (h2 ▸ hr) r' (h2 ▸ hr')
    · intro r hr
      show ((lineP x (wordsOf y)).1.spots _).isSome = true
      rw [h1]; exact h.has r (h2 ▸ hr)
  · obtain ⟨hr, hv, hright⟩ := reqP_ok h2
    obtain ⟨hok, htx⟩ := verP_text hv
    have hne : wordsOf y ≠ [] := by rw [e]; simp
    have hpl : plW b.f0.data.toList = true := by have := txV_word hok; rwa [htx] at this
    obtain ⟨pre, post, i1, i2, _⟩ := words_last (l := y.data.toList) (words_clean hne) (W := W ++ [a]) (b := b) (by rw [ba_of, e]; simp) hpl
    have hsp : (nextP x y).spots = (addR x ⟨a.f0, verP b.f0⟩ b.f1).spots := by show (lineP x (wordsOf y)).1.spots = _; rw [h4]
    have hrq : (nextP x y).reqs = x.reqs ++ [⟨a.f0, verP b.f0⟩] := by show (lineP x (wordsOf y)).1.reqs = _; rw [h4]; rfl
    refine ⟨hfr, fun q z hz => ?_, fun r hm => ?_, fun r hm r' hm' hq => ?_, fun r hm => ?_⟩
    · rw [hsp] at hz
      rw [hrq]
      simp only [addR] at hz
      split at hz
      · rename_i hq
        obtain rfl := Option.some.inj hz
        refine ⟨⟨a.f0, verP b.f0⟩, by simp, hq, T ++ pre, post ++ [10], ?_, ?_, by simp⟩
        · rw [htx, i1]; simp
        · rw [h.fro, i2]; simp
      · obtain ⟨r, hm, e1, u, v, e2, e3, e4⟩ := h.spot q z hz
        exact ⟨r, List.mem_append.2 (.inl hm), e1, u, v ++ (y.data.toList ++ [10]), by rw [e2]; simp, e3, by simp⟩
    · rw [hrq] at hm
      rcases List.mem_append.1 hm with hm | hm
      · exact h.ok r hm
      · rw [List.mem_singleton.1 hm]; exact hright
    · rw [hrq] at hm hm'
      have hno : ∀ r ∈ x.reqs, r.f0.data.toList ≠ a.f0.data.toList := fun r hr e => by
        have := h.has r hr
        rw [e, h3] at this
        cases this
      rcases List.mem_append.1 hm with hm | hm
      · rcases List.mem_append.1 hm' with hm' | hm'
        · exact h.one r hm r' hm' hq
        · rw [List.mem_singleton.1 hm'] at hq
          exact absurd hq (hno r hm)
      · rcases List.mem_append.1 hm' with hm' | hm'
        · rw [List.mem_singleton.1 hm] at hq
          exact absurd hq.symm (hno r' hm')
        · rw [List.mem_singleton.1 hm, List.mem_singleton.1 hm']
    · rw [hsp]
      rw [hrq] at hm
      simp only [addR]
      split
      · rfl
      · rename_i hq
        rcases List.mem_append.1 hm with hm | hm
        · exact h.has r hm
        · rw [List.mem_singleton.1 hm] at hq
          exact absurd rfl hq
/-- Behind all lines. -/
def unlR (rows : List ByteArray) : List UInt8 := unl (rows.map fun y => y.data.toList)
theorem runP_T : ∀ {l : List ByteArray} {k : Nat} {T : List UInt8} {x y : Ps}, (∀ s ∈ l, s.size ≤ 400000) → PsT T x → runP k l x = .inl y → PsT (T ++ unlR l) y
  | [], k, T, x, y, _, h, hr => by
    obtain rfl := Sum.inl.inj hr
    show PsT (T ++ []) x
    rw [List.append_nil]; exact h
  | s :: l, k, T, x, y, hs, h, hr => by
    unfold runP at hr
    split at hr
    · rename_i h0
      have := runP_T (fun z hz => hs z (List.mem_cons_of_mem _ hz)) (h.line s (hs s List.mem_cons_self) h0) hr
      rw [List.append_assoc] at this
      have e : (s.data.toList ++ [10]) ++ unlR l = unlR (s :: l) := by unfold unlR; rw [List.map_cons, unl_cons]; simp
      rwa [e] at this
    · cases hr
theorem rowsW_unl (s : ByteArray) : unlR (rowsW s) = s.data.toList ∨ unlR (rowsW s) = s.data.toList ++ [10] := by
  unfold unlR rowsW
  rw [List.map_map, show (fun y : ByteArray => y.data.toList) ∘ ba = id from rfl, List.map_id]
  exact lines_join s.data.toList
/-- What a manifest says, by its text. -/
structure ManIs (s : ByteArray) (x : Ps) (n : Nat) : Prop where
  text : PsT (unlR (rowsW s)) x
  run : runP 0 (rowsW s) ps0 = .inl x
  rows : n = (rowsW s).length
  block : x.block.toList.isEmpty = true
  mod : x.mod.toList.isEmpty = false
  bad : badL (rowsW s) = none
theorem manIs {s : ByteArray} (hs : s.size ≤ 400000) {x : Ps} {n : Nat} (h : parseP s = .inl (x, n)) : ManIs s x n := by
  obtain ⟨_, h1, h2, h3, h4, h5⟩ := parseP_inv (Q := fun _ _ => True) h trivial (fun _ _ _ _ _ _ => trivial)
  have ht := runP_T (fun y hy => Nat.le_trans (rowsW_size hy) hs) PsT.zero h2
  exact ⟨ht, h2, h1, h3, h4, h5⟩
theorem ManIs.parse {s : ByteArray} {x : Ps} {n : Nat} (h : ManIs s x n) : parseP s = .inl (x, n) := by
  unfold parseP
  rw [h.bad]
  simp only [h.run]
  rw [h.block, h.mod, h.rows]
  rfl
/-- Where a requirement's version stands. -/
theorem ManIs.at {s : ByteArray} {x : Ps} {n : Nat} (h : ManIs s x n) {q : List UInt8} {z : Int} (hz : x.spots q = some z) : ∃ r ∈ x.reqs, r.f0.data.toList = q ∧ ∃ a b, s.data.toList = a ++ ((txV r.f1).data.toList ++ b) ∧ (a.length : Int) = z := by
  obtain ⟨r, hr, e1, a, b, e2, e3, e4⟩ := h.text.spot q z hz
  refine ⟨r, hr, e1, ?_⟩
  rcases rowsW_unl s with hu | hu
  · exact ⟨a, b, by rw [← hu, e2], e3⟩
  · rw [hu] at e2
    obtain ⟨b', c, rfl⟩ : ∃ b' c, b = b' ++ [c] := by
      rcases List.eq_nil_or_concat b with rfl | ⟨b', c, rfl⟩
      · exact absurd rfl e4
      · exact ⟨b', c, by simp⟩
    refine ⟨a, b', ?_, e3⟩
    have e5 : s.data.toList ++ [10] = (a ++ ((txV r.f1).data.toList ++ b')) ++ [c] := by rw [e2]; simp
    exact (List.append_inj' e5 rfl).1
end Go.Proofs.YtmbpefnhkimplaaGreatDoor
end
