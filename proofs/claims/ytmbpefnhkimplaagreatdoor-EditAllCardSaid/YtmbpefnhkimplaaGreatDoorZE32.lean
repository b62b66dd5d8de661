/- The texts MnPa in one file, without what these claims do not use (put together by prune2.py). -/
import Derived.Test.YtmbpefnhkimplaaGreatDoorZE30
import Derived.Test.YtmbpefnhkimplaaGreatDoorZE31
section
namespace Go.Proofs.YtmbpefnhkimplaaGreatDoor
open Go Go.RowKit Go.Sort Go.Maps Go.Proofs Go.Proofs.YtmbpefnhkimplaaGreatDoorW.PrintWords Go.Proofs.YtmbpefnhkimplaaGreatDoorW.PrintLast Go.Proofs.YtmbpefnhkimplaaGreatDoor.K0 Go.Proofs.YtmbpefnhkimplaaGreatDoor.R1 Go.Proofs.YtmbpefnhkimplaaGreatDoor.R2
set_option linter.unusedVariables false
set_option linter.unusedSimpArgs false
/-- The words of a line that may be. -/
def wordsOf (s : ByteArray) : List Wd := ((oneW s).getD ([], ⟨#[]⟩)).1
/-- A parser that knows nothing. -/
def ps0 : Ps := ⟨⟨#[]⟩, ⟨#[]⟩, [], [], [], [], ⟨#[]⟩, 0, fun _ => none, 0⟩
/-- Behind a line. -/
def nextP (x : Ps) (s : ByteArray) : Ps := { (lineP x (wordsOf s)).1 with fro := (lineP x (wordsOf s)).1.fro + ((s.size : Int) + 1) }
/-- Lines, one by one, from the i-th on: what is known behind all, or where it falls, and why. -/
def runP : Nat → List ByteArray → Ps → Ps ⊕ (Nat × Int)
  | _, [], x => .inl x
  | i, s :: l, x => if (lineP x (wordsOf s)).2 = 0 then runP (i + 1) l (nextP x s) else .inr (i, (lineP x (wordsOf s)).2)
def badL (l : List ByteArray) : Option Nat := l.findIdx? fun s => (oneW s).isNone
/-- parse: what is known and how many lines there are, or where it falls, and why. -/
def parseP (s : ByteArray) : (Ps × Nat) ⊕ (Nat × Int) := match badL (rowsW s) with
  | some k => .inr (k, 9)
  | none => match runP 0 (rowsW s) ps0 with
    | .inr e => .inr e
    | .inl x => if x.block.toList.isEmpty = false then .inr ((rowsW s).length, 10) else if x.mod.toList.isEmpty = true then .inr ((rowsW s).length, 5) else .inl (x, (rowsW s).length)
def gdW (w : List UInt8) : Prop := (∃ c, sgnB c = true ∧ w = [c]) ∨ (w ≠ [] ∧ w.all wdB = true)
theorem lexL_good : ∀ (l : List UInt8) (p : Nat) (cur : Option LW), (∀ x, cur = some x → x.1 ≠ [] ∧ x.1.all wdB = true ∧ x.2 + x.1.length = p) → ∀ y ∈ (lexL l p cur).1, gdW y.1 ∧ y.2 + y.1.length ≤ p + l.length
  | [], p, cur, h, y, hy => by
    cases cur with
    | none => cases hy
    | some x =>
      obtain rfl := List.mem_singleton.1 hy
      obtain ⟨h1, h2, h3⟩ := h y rfl
      exact ⟨.inr ⟨h1, h2⟩, by omega⟩
  | c :: l, p, cur, h, y, hy => by
    have hn := lexL_good l (p + 1) none (fun _ h => by cases h)
    have hfin : ∀ y ∈ finL cur, gdW y.1 ∧ y.2 + y.1.length ≤ p + (c :: l).length := fun y hy => by
      cases cur with
      | none => cases hy
      | some x =>
        obtain rfl := List.mem_singleton.1 hy
        obtain ⟨h1, h2, h3⟩ := h y rfl
        exact ⟨.inr ⟨h1, h2⟩, by omega⟩
    have hn' : ∀ y ∈ (lexL l (p + 1) none).1, gdW y.1 ∧ y.2 + y.1.length ≤ p + (c :: l).length := fun y hy => ⟨(hn y hy).1, by have := (hn y hy).2; simp; omega⟩
    unfold lexL at hy
    split at hy
    · cases hy
    · split at hy
      · rename_i hs
        rcases List.mem_append.1 hy with hy | hy
        · exact hfin y hy
        · rcases List.mem_cons.1 hy with rfl | hy
          · exact ⟨.inl ⟨c, hs, rfl⟩, by simp only [List.length_cons, List.length_nil]; omega⟩
          · exact hn' y hy
      · rename_i hs
        split at hy
        · rcases List.mem_append.1 hy with hy | hy
          · exact hfin y hy
          · exact hn' y hy
        · rename_i hb
          have hw : wdB c = true := by unfold wdB; rw [Bool.not_eq_true] at hs hb; rw [hs, hb]; rfl
          have := lexL_good l (p + 1) (addL p c cur) (fun x hx => by
            cases cur with
            | none =>
              obtain rfl := Option.some.inj hx
              exact ⟨by simp, by simp [hw], rfl⟩
            | some z =>
              obtain ⟨h1, h2, h3⟩ := h z rfl
              obtain rfl := Option.some.inj hx
              exact ⟨by simp, by rw [List.all_append, h2]; simp [hw], by simp; omega⟩) y hy
          exact ⟨this.1, by have := this.2; simp; omega⟩
theorem lexL_len : ∀ (l : List UInt8) (p : Nat) (cur : Option LW), (lexL l p cur).1.length ≤ 2 * l.length + (finL cur).length
  | [], p, cur => by unfold lexL; simp
  | c :: l, p, cur => by
    have h1 := lexL_len l (p + 1) none
    have h2 := lexL_len l (p + 1) (addL p c cur)
    have h3 : (finL (addL p c cur)).length = 1 := by cases cur <;> rfl
    rw [h3] at h2
    have h0 : (finL none).length = 0 := rfl
    rw [h0] at h1
    unfold lexL
    split
    · simp
    · split
      · simp; omega
      · split
        · simp; omega
        · simp; omega
theorem not_sign {c : UInt8} {w : List UInt8} (h : wdB c = true) : Lib.contains [40, 41, 91, 93, 44] (c :: w) = false := by
  cases hc : Lib.contains [40, 41, 91, 93, 44] (c :: w) with
  | false => rfl
  | true =>
    have h0 : 0 ≤ Lib.index [40, 41, 91, 93, 44] (c :: w) := of_decide_eq_true hc
    rcases Lib.index_spec [40, 41, 91, 93, 44] (c :: w) with ⟨h1, _⟩ | ⟨i, _, _, ho, _⟩
    · rw [h1] at h0; exact absurd h0 (by decide)
    · have hm : c ∈ ([40, 41, 91, 93, 44] : List UInt8) := by
        unfold Lib.occAt at ho
        obtain ⟨t, ht⟩ := List.isPrefixOf_iff_prefix.1 ho
        exact List.mem_of_mem_drop (by rw [← ht]; simp)
      have hs : sgnB c = true := by
        simp only [List.mem_cons, List.not_mem_nil, or_false] at hm
        rcases hm with rfl | rfl | rfl | rfl | rfl <;> rfl
      unfold wdB at h
      rw [hs] at h
      cases h
theorem sign_one : ∀ c : UInt8, sgnB c = true → Lib.contains [40, 41, 91, 93, 44] [c] = true := fun c => byte_all (p := fun c => sgnB c = true → Lib.contains [40, 41, 91, 93, 44] [c] = true) (by decide +kernel) c
/-- The shape of a word: itself, if it is a sign. -/
theorem shape_sign {c : UInt8} (h : sgnB c = true) (q : Nat) : shapeOf (toWd ([c], q)) = [c] := by
  unfold shapeOf toWd
  rw [if_neg (by rw [ByteArray.toList_eq]; show ¬ ([c] == [61, 62]) = true; simp)]
  show (if Lib.contains [40, 41, 91, 93, 44] [c] = true then [c] else [120]) = [c]
  rw [if_pos (sign_one c h)]
theorem shape_word {w : List UInt8} (h0 : w ≠ []) (h : w.all wdB = true) (q : Nat) : shapeOf (toWd (w, q)) = if w = [61, 62] then [61] else [120] := by
  unfold shapeOf toWd
  rw [ByteArray.toList_eq]
  show (if (w == [61, 62]) = true then _ else _) = _
  by_cases e : w = [61, 62]
  · rw [if_pos (by rw [e]; rfl), if_pos e]
  · rw [if_neg (by simpa using e), if_neg e, if_neg]
    match w, h0, h with
    | c :: w, _, h =>
      rw [List.all_cons] at h
      rw [show Lib.contains [40, 41, 91, 93, 44] (ba (c :: w)).data.toList = false from not_sign (Bool.and_eq_true_iff.1 h).1]
      exact Bool.false_ne_true
theorem shape_good {w : List UInt8} (h : gdW w) (q : Nat) : (shapeOf (toWd (w, q))).length = 1 := by
  rcases h with ⟨c, hc, rfl⟩ | ⟨h0, h⟩
  · rw [shape_sign hc]; rfl
  · rw [shape_word h0 h]; split <;> rfl
theorem wordsOf_eq (s : ByteArray) : wordsOf s = if s.data.toList.any oddB = true then [] else (lexL s.data.toList 0 none).1.map toWd := by
  unfold wordsOf
  rw [oneW_eq]
  unfold lineL
  split <;> rfl
theorem words_ok (s : ByteArray) (hs : s.size ≤ 400000) : WsOk (wordsOf s) := by
  rw [wordsOf_eq]
  rw [Lib.size_eq] at hs
  split
  · exact ⟨fun y h => (by cases h), fun y h => (by cases h), fun y h => (by cases h), fun y h => (by cases h), Nat.zero_le _⟩
  · have hg := lexL_good s.data.toList 0 none (fun _ h => by cases h)
    have hl := lexL_len s.data.toList 0 none
    have hx : ∀ y ∈ (lexL s.data.toList 0 none).1.map toWd, ∃ z ∈ (lexL s.data.toList 0 none).1, y = toWd z := fun y h => by
      obtain ⟨z, hz, rfl⟩ := List.mem_map.1 h
      exact ⟨z, hz, rfl⟩
    refine ⟨fun y h => ?_, fun y h => ?_, fun y h => ?_, fun y h => ?_, ?_⟩
    · obtain ⟨z, hz, rfl⟩ := hx y h
      have := (hg z hz).2
      show (ba z.1).size ≤ _
      rw [ba_size]; omega
    · obtain ⟨z, hz, rfl⟩ := hx y h
      show (0 : Int) ≤ (z.2 : Int)
      omega
    · obtain ⟨z, hz, rfl⟩ := hx y h
      have := (hg z hz).2
      show (z.2 : Int) ≤ _
      omega
    · obtain ⟨z, hz, rfl⟩ := hx y h
      exact shape_good (hg z hz).1 z.2
    · rw [List.length_map]
      have : (finL none).length = 0 := rfl
      omega
structure PsG (x y : Ps) : Prop where
  reqs : y.reqs.length ≤ x.reqs.length + 1
  swaps : y.swaps.length ≤ x.swaps.length + 1
  excl : y.excl.length ≤ x.excl.length + 1
  retr : y.retr.length ≤ x.retr.length + 1
  cnt : y.cnt ≤ x.cnt + 1
  block : y.block = x.block
  fro : y.fro = x.fro
theorem PsG.refl (x : Ps) : PsG x x := ⟨Nat.le_succ _, Nat.le_succ _, Nat.le_succ _, Nat.le_succ _, Nat.le_succ _, rfl, rfl⟩
theorem modP_G (x : Ps) (a : ByteArray) : PsG x (modP x a).1 := by
  unfold modP; split; · exact .refl x
  split; · exact .refl x
  exact ⟨Nat.le_succ _, Nat.le_succ _, Nat.le_succ _, Nat.le_succ _, Nat.le_succ _, rfl, rfl⟩
theorem relP_G (x : Ps) (a : ByteArray) : PsG x (relP x a).1 := by
  unfold relP; repeat (split; · exact .refl x)
  exact ⟨Nat.le_succ _, Nat.le_succ _, Nat.le_succ _, Nat.le_succ _, Nat.le_succ _, rfl, rfl⟩
theorem rqrP_G (x : Ps) (r : Rq) (e z : Int) : PsG x (rqrP x r e z).1 := by
  unfold rqrP; repeat (split; · exact .refl x)
  exact ⟨by simp [addR], Nat.le_succ _, Nat.le_succ _, Nat.le_succ _, Nat.le_refl _, rfl, rfl⟩
theorem excP_G (x : Ps) (r : Rq) (e : Int) : PsG x (excP x r e).1 := by
  unfold excP; split; · exact .refl x
  exact ⟨Nat.le_succ _, Nat.le_succ _, by simp, Nat.le_succ _, Nat.le_succ _, rfl, rfl⟩
theorem repP_G (x : Ps) (a d : ByteArray) : PsG x (repP x a d).1 := by
  unfold repP; repeat (split; · exact .refl x)
  exact ⟨Nat.le_succ _, by simp, Nat.le_succ _, Nat.le_succ _, Nat.le_succ _, rfl, rfl⟩
theorem retP_G (x : Ps) (a b : ByteArray) : PsG x (retP x a b).1 := ⟨Nat.le_succ _, Nat.le_succ _, Nat.le_succ _, by simp [retP], Nat.le_succ _, rfl, rfl⟩
theorem doK_G (x : Ps) (k : Nat) (ws : List Wd) : PsG x (doK x k ws).1 := by
  unfold doK
  split
  · exact modP_G _ _
  · exact relP_G _ _
  · exact rqrP_G _ _ _ _
  · exact excP_G _ _ _
  · exact repP_G _ _ _
  · split <;> exact retP_G _ _ _
theorem stmtP_G (x : Ps) (v : ByteArray) (ws : List Wd) : PsG x (stmtP x v ws).1 := by
  unfold stmtP; split; · exact doK_G _ _ _
  exact .refl x
/-- .. and a line, but for the block's name. -/
theorem lineP_G (x : Ps) (ws : List Wd) : PsG { x with block := (lineP x ws).1.block } (lineP x ws).1 ∧ ((lineP x ws).1.block = x.block ∨ (lineP x ws).1.block = ⟨#[]⟩ ∨ ∃ a ∈ ws, (lineP x ws).1.block = a.f0) := by
  have hs : ∀ y : Ps × Int, PsG x y.1 → PsG { x with block := y.1.block } y.1 := fun y h => ⟨h.reqs, h.swaps, h.excl, h.retr, h.cnt, rfl, h.fro⟩
  unfold lineP
  split
  · exact ⟨hs (x, 0) (.refl x), .inl rfl⟩
  · rename_i a l
    split
    · split
      · exact ⟨⟨Nat.le_succ _, Nat.le_succ _, Nat.le_succ _, Nat.le_succ _, Nat.le_succ _, rfl, rfl⟩, .inr (.inl rfl)⟩
      · exact ⟨hs _ (stmtP_G _ _ _), .inl (stmtP_G _ _ _).block⟩
    · split
      · exact ⟨⟨Nat.le_succ _, Nat.le_succ _, Nat.le_succ _, Nat.le_succ _, Nat.le_succ _, rfl, rfl⟩, .inr (.inr ⟨a, List.mem_cons_self, rfl⟩)⟩
      · exact ⟨hs _ (stmtP_G _ _ _), .inl (stmtP_G _ _ _).block⟩
/-- What k lines may have made. -/
structure PsB (k : Nat) (x : Ps) : Prop where
  reqs : x.reqs.length ≤ k
  swaps : x.swaps.length ≤ k
  excl : x.excl.length ≤ k
  retr : x.retr.length ≤ k
  cnt : x.cnt ≤ k
  block : x.block.size ≤ 400000
  lo : 0 ≤ x.fro
  hi : x.fro ≤ (k : Int) * 400001
  spot : ∀ q z, x.spots q = some z → 0 ≤ z ∧ z ≤ (k : Int) * 400001
  has : ∀ r ∈ x.reqs, (x.spots r.f0.data.toList).isSome = true
theorem PsB.zero : PsB 0 ps0 := ⟨Nat.le_refl _, Nat.le_refl _, Nat.le_refl _, Nat.le_refl _, Nat.le_refl _, Nat.zero_le _, Int.le_refl _, by decide, fun _ _ h => (by cases h), fun _ h => (by cases h)⟩
/-- The spots behind a statement; behind a line. -/
structure PsH (x y : Ps) : Prop where
  spot : ∀ q z, y.spots q = some z → x.spots q = some z ∨ (x.fro ≤ z ∧ z ≤ x.fro + 400000)
  has : (∀ r ∈ x.reqs, (x.spots r.f0.data.toList).isSome = true) → ∀ r ∈ y.reqs, (y.spots r.f0.data.toList).isSome = true
theorem PsH.same {x y : Ps} (h1 : y.spots = x.spots) (h2 : y.reqs = x.reqs) : PsH x y := ⟨fun q z h => .inl (h1 ▸ h), fun h => h1 ▸ h2 ▸ h⟩
theorem wAt_at {ws : List Wd} (hw : WsOk ws) (i : Nat) : 0 ≤ (wAt ws i).f1 ∧ (wAt ws i).f1 ≤ 400000 := by
  unfold wAt
  rw [List.getD_eq_getElem?_getD]
  cases h : ws[i]? with
  | none => exact ⟨Int.le_refl _, by decide⟩
  | some y => exact ⟨hw.lo y (List.mem_of_getElem? h), hw.hi y (List.mem_of_getElem? h)⟩
theorem doK_H (x : Ps) (k : Nat) {ws : List Wd} (hw : WsOk ws) : PsH x (doK x k ws).1 := by
  unfold doK
  split
  · unfold modP; repeat (split; · exact .same rfl rfl)
    exact .same rfl rfl
  · unfold relP; repeat (split; · exact .same rfl rfl)
    exact .same rfl rfl
  · unfold rqrP; repeat (split; · exact .same rfl rfl)
    obtain ⟨h1, h2⟩ := wAt_at hw 1
    refine ⟨fun q z h => ?_, fun h r hr => ?_⟩
    · simp only [addR] at h
      split at h
      · obtain rfl := Option.some.inj h
        exact .inr ⟨by omega, by omega⟩
      · exact .inl h
    · simp only [addR] at hr ⊢
      split
      · rfl
      · rename_i hne
        rcases List.mem_append.1 hr with hr | hr
        · exact h r hr
        · rw [List.mem_singleton.1 hr] at hne
          exact absurd rfl hne
  · unfold excP; repeat (split; · exact .same rfl rfl)
    exact .same rfl rfl
  · unfold repP; repeat (split; · exact .same rfl rfl)
    exact .same rfl rfl
  · split <;> exact .same rfl rfl
theorem stmtP_H (x : Ps) (v : ByteArray) {ws : List Wd} (hw : WsOk ws) : PsH x (stmtP x v ws).1 := by
  unfold stmtP; split; · exact doK_H _ _ hw
  exact .same rfl rfl
theorem lineP_H (x : Ps) {ws : List Wd} (hw : WsOk ws) : PsH x (lineP x ws).1 := by
  unfold lineP
  split
  · exact .same rfl rfl
  · split
    · split
      · exact .same rfl rfl
      · exact stmtP_H _ _ hw
    · split
      · exact .same rfl rfl
      · exact stmtP_H _ _ hw.tail
theorem PsB.ok {k : Nat} {x : Ps} (h : PsB k x) (hk : k ≤ 400001) : PsOk x :=
  ⟨by have := h.reqs; omega, by have := h.swaps; omega, by have := h.excl; omega, by have := h.retr; omega, by have := h.cnt; omega, h.lo, by have := h.hi; have : (k : Int) * 400001 ≤ 400001 * 400001 := Int.mul_le_mul_of_nonneg_right (by omega) (by decide); omega⟩
theorem PsB.line {k : Nat} {x : Ps} (h : PsB k x) (s : ByteArray) (hs : s.size ≤ 400000) : PsB (k + 1) (nextP x s) := by
  obtain ⟨g, hb⟩ := lineP_G x (wordsOf s)
  have hw := words_ok s hs
  have g1 := g.reqs; have g2 := g.swaps; have g3 := g.excl; have g4 := g.retr; have g5 := g.cnt; have g6 := g.fro
  simp only at g1 g2 g3 g4 g5 g6
  refine ⟨Nat.le_trans g1 (Nat.succ_le_succ h.reqs), Nat.le_trans g2 (Nat.succ_le_succ h.swaps), Nat.le_trans g3 (Nat.succ_le_succ h.excl), Nat.le_trans g4 (Nat.succ_le_succ h.retr), Nat.le_trans g5 (Nat.succ_le_succ h.cnt), ?_, ?_, ?_, fun q z hz => ?_, (lineP_H x hw).has h.has⟩
  · show (lineP x (wordsOf s)).1.block.size ≤ _
    rcases hb with hb | hb | ⟨a, ha, hb⟩
    · rw [hb]; exact h.block
    · rw [hb]; exact Nat.zero_le _
    · rw [hb]; exact hw.size a ha
  · show 0 ≤ (lineP x (wordsOf s)).1.fro + ((s.size : Int) + 1)
    rw [g6]; have := h.lo; omega
  · show (lineP x (wordsOf s)).1.fro + ((s.size : Int) + 1) ≤ _
    rw [g6]; have := h.hi; rw [Int.natCast_add, Int.add_mul]; omega
  · have h1 := h.hi
    have h2 := h.lo
    rw [Int.natCast_add, Int.add_mul]
    rcases (lineP_H x hw).spot q z hz with hz | ⟨h3, h4⟩
    · have := h.spot q z hz; omega
    · omega
/-- What holds behind all lines. -/
theorem runP_inv {Q : Nat → Ps → Prop} : ∀ {l : List ByteArray} {k : Nat} {x y : Ps}, (∀ s ∈ l, ∀ k x, Q k x → (lineP x (wordsOf s)).2 = 0 → Q (k + 1) (nextP x s)) → Q k x → runP k l x = .inl y → Q (k + l.length) y
  | [], k, x, y, _, h, hr => by
    obtain rfl := Sum.inl.inj hr
    exact h
  | s :: l, k, x, y, hs, h, hr => by
    unfold runP at hr
    split at hr
    · rename_i h0
      have := runP_inv (fun s hm => hs s (List.mem_cons_of_mem _ hm)) (hs s List.mem_cons_self k x h h0) hr
      rwa [show k + 1 + l.length = k + (s :: l).length by simp; omega] at this
    · cases hr
theorem parseP_inv {Q : Nat → Ps → Prop} {s : ByteArray} {x : Ps} {n : Nat} (hr : parseP s = .inl (x, n)) (h0 : Q 0 ps0) (hs : ∀ t ∈ rowsW s, ∀ k x, Q k x → (lineP x (wordsOf t)).2 = 0 → Q (k + 1) (nextP x t)) : Q (rowsW s).length x ∧ n = (rowsW s).length ∧ runP 0 (rowsW s) ps0 = .inl x ∧ x.block.toList.isEmpty = true ∧ x.mod.toList.isEmpty = false ∧ badL (rowsW s) = none := by
  unfold parseP at hr
  split at hr
  · cases hr
  · rename_i hb
    split at hr
    · cases hr
    · rename_i y hy
      split at hr
      · cases hr
      · rename_i hbk
        split at hr
        · cases hr
        · rename_i hmd
          obtain ⟨rfl, rfl⟩ := Prod.mk.inj (Sum.inl.inj hr)
          have := runP_inv hs h0 hy
          rw [Nat.zero_add] at this
          exact ⟨this, rfl, hy, by rwa [Bool.not_eq_false] at hbk, by rwa [Bool.not_eq_true] at hmd, hb⟩
theorem lnsW_all : ∀ {l : List ByteArray}, (∀ (k : Nat) x, l[k]? = some x → oneW x ≠ none) → lnsW l = l.map fun s => lnF ((oneW s).getD ([], ⟨#[]⟩))
  | [], _ => rfl
  | s :: l, h => by
    obtain ⟨p, hp⟩ := Option.ne_none_iff_exists'.1 (h 0 s rfl)
    have ih := lnsW_all (l := l) fun k x hx => h (k + 1) x hx
    unfold lnsW at ih ⊢
    rw [List.filterMap_cons, hp, List.map_cons, hp, ih]
    rfl
end Go.Proofs.YtmbpefnhkimplaaGreatDoor
end
