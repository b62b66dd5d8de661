/- The texts MnTx in one file, without what these claims do not use (put together by prune2.py). -/
import Derived.Test.YtmbpefnhkimplaaGreatDoorZE32
section
namespace Go.Proofs.YtmbpefnhkimplaaGreatDoor
open Go Go.RowKit Go.Proofs.YtmbpefnhkimplaaGreatDoorW.PrintWords Go.Proofs.YtmbpefnhkimplaaGreatDoor.K0 Go.Proofs.YtmbpefnhkimplaaGreatDoor.R1 Go.Proofs.YtmbpefnhkimplaaGreatDoor.R2
set_option linter.unusedVariables false
set_option linter.unusedSimpArgs false
/-- Lines, each with its end. -/
def unl (ls : List (List UInt8)) : List UInt8 := ls.flatMap fun p => p ++ [10]
theorem unl_cons (a : List UInt8) (b : List (List UInt8)) : unl (a :: b) = a ++ 10 :: unl b := by unfold unl; rw [List.flatMap_cons]; simp
theorem lines_cons {x : List UInt8} (t : List UInt8) (h : (10 : UInt8) ∉ x) : linesOf (x ++ 10 :: t) = x :: linesOf t := by
  unfold linesOf
  rw [splitC_at t h, List.getLast?_cons, List.dropLast_cons_of_ne_nil (splitC_ne 10 t)]
  have h2 : (splitC 10 t).getLast? = some ((splitC 10 t).getLast (splitC_ne 10 t)) := List.getLast?_eq_some_getLast _
  rw [h2]
  simp only [Option.getD_some]
  split <;> rfl
theorem lines_one {x : List UInt8} (h : (10 : UInt8) ∉ x) (hx : x ≠ []) : linesOf x = [x] := by
  unfold linesOf
  rw [splitC_none h, if_neg]
  intro e
  simp at e
  exact hx e
theorem lines_unl : ∀ {ls : List (List UInt8)} (t : List UInt8), (∀ x ∈ ls, (10 : UInt8) ∉ x) → linesOf (unl ls ++ t) = ls ++ linesOf t
  | [], _, _ => rfl
  | x :: ls, t, h => by
    rw [unl_cons, List.append_assoc, List.cons_append, lines_cons _ (h x List.mem_cons_self), lines_unl t (fun y hy => h y (List.mem_cons_of_mem _ hy))]
    rfl
/-- What may stand behind a line. -/
def tailOk (R : List UInt8) : Prop := R = [] ∨ ∃ R', R = 10 :: R'
def tailL (R : List UInt8) : List (List UInt8) := linesOf (R.drop 1)
theorem lines_line {x R : List UInt8} (h : (10 : UInt8) ∉ x) (hx : x ≠ []) (hR : tailOk R) : linesOf (x ++ R) = x :: tailL R := by
  rcases hR with rfl | ⟨R', rfl⟩
  · rw [List.append_nil, lines_one h hx]; rfl
  · exact lines_cons R' h
theorem first_nl : ∀ s : List UInt8, (10 : UInt8) ∉ s ∨ ∃ x t, s = x ++ 10 :: t ∧ (10 : UInt8) ∉ x
  | [] => .inl (by simp)
  | c :: s => by
    by_cases h : c = 10
    · subst h; exact .inr ⟨[], s, rfl, by simp⟩
    · rcases first_nl s with h2 | ⟨x, t, rfl, h2⟩
      · exact .inl (by simp [h2]; exact fun e => h e.symm)
      · exact .inr ⟨c :: x, t, rfl, by simp [h2]; exact fun e => h e.symm⟩
/-- No line has a line's end in it. -/
theorem lines_no : ∀ (n : Nat) (s : List UInt8), s.length ≤ n → ∀ x ∈ linesOf s, (10 : UInt8) ∉ x
  | 0, s, h, x, hx => by
    obtain rfl : s = [] := List.length_eq_zero_iff.1 (by omega)
    rw [lines_nil] at hx; cases hx
  | n + 1, s, h, x, hx => by
    rcases first_nl s with h1 | ⟨y, t, rfl, h1⟩
    · by_cases h2 : s = []
      · subst h2; rw [lines_nil] at hx; cases hx
      · rw [lines_one h1 h2] at hx
        rw [List.mem_singleton.1 hx]; exact h1
    · rw [lines_cons t h1] at hx
      rcases List.mem_cons.1 hx with rfl | hx
      · exact h1
      · exact lines_no n t (by simp at h; omega) x hx
/-- A line of a text: what stands ahead of it and behind it. -/
theorem lines_at : ∀ (n : Nat) (s : List UInt8), s.length ≤ n → ∀ (j : Nat) (x : List UInt8), (linesOf s)[j]? = some x → ∃ R, s = unl ((linesOf s).take j) ++ (x ++ R) ∧ tailOk R ∧ tailL R = (linesOf s).drop (j + 1)
  | 0, s, h, j, x, hx => by
    obtain rfl : s = [] := List.length_eq_zero_iff.1 (by omega)
    rw [lines_nil] at hx; simp at hx
  | n + 1, s, h, j, x, hx => by
    rcases first_nl s with h1 | ⟨y, t, rfl, h1⟩
    · by_cases h2 : s = []
      · subst h2; rw [lines_nil] at hx; simp at hx
      · rw [lines_one h1 h2] at hx ⊢
        match j, hx with
        | 0, hx =>
          obtain rfl := Option.some.inj hx
          exact ⟨[], by simp [unl], .inl rfl, rfl⟩
        | j + 1, hx => simp at hx
    · rw [lines_cons t h1] at hx ⊢
      match j, hx with
      | 0, hx =>
        obtain rfl := Option.some.inj hx
        exact ⟨10 :: t, by simp [unl], .inr ⟨t, rfl⟩, rfl⟩
      | j + 1, hx =>
        obtain ⟨R, e1, e2, e3⟩ := lines_at n t (by simp at h; omega) j x hx
        refine ⟨R, ?_, e2, e3⟩
        rw [List.take_succ_cons, unl_cons, List.append_assoc, List.cons_append, ← e1]
theorem remL_ne {cur : Option LW} {c : UInt8} (l : List UInt8) (h : c ≠ 47) : remL cur (c :: l) = false := by
  cases h2 : remL cur (c :: l) with
  | false => rfl
  | true => exact absurd (remL_cons h2).2.1 h
/-- A word of a line, and what stands ahead of it and behind it. -/
theorem lex_dec : ∀ (l : List UInt8) (p : Nat) (cur : Option LW) (W W2 : List LW) (w : List UInt8) (q : Nat) (note : List UInt8), lexL l p cur = (W ++ (w, q) :: W2, note) → w.all wdB = true → w ≠ [] →
    (∃ v u post, cur = some (v, q) ∧ W = [] ∧ w = v ++ u ∧ l = u ++ post ∧ endL post ∧ lexL post (p + u.length) none = (W2, note)) ∨
    (∃ pre post, l = pre ++ (w ++ post) ∧ stL pre p cur = some (W, none) ∧ q = p + pre.length ∧ endL post ∧ wdOk w = true ∧ lexL post (p + pre.length + w.length) none = (W2, note))
  | [], p, cur, W, W2, w, q, note, h, hw, hn => by
    rw [lexL] at h
    obtain ⟨h1, rfl⟩ := Prod.mk.inj h
    cases cur with
    | none => simp [finL] at h1
    | some x =>
      match W, h1 with
      | [], h1 =>
        obtain ⟨rfl, rfl⟩ := List.cons.inj h1
        exact .inl ⟨w, [], [], rfl, rfl, by simp, rfl, trivial, rfl⟩
      | y :: W, h1 => simp [finL] at h1
  | c :: l, p, cur, W, W2, w, q, note, h, hw, hn => by
    rw [lexL] at h
    split at h
    · obtain ⟨h1, _⟩ := Prod.mk.inj h
      exact absurd h1 (by simp)
    · rename_i hr
      rw [Bool.not_eq_true] at hr
      split at h
      · rename_i hs
        have hc := sgn_ne hs
        obtain ⟨h1, h2⟩ := Prod.mk.inj h
        have hno : ∀ W', ([c], p) :: (lexL l (p + 1) none).1 = W' ++ (w, q) :: W2 → ∃ W'', W' = ([c], p) :: W'' ∧ lexL l (p + 1) none = (W'' ++ (w, q) :: W2, note) := fun W' e => by
          match W', e with
          | [], e =>
            obtain ⟨e1, _⟩ := List.cons.inj e
            obtain ⟨rfl, _⟩ := Prod.mk.inj e1
            simp [wdB, hs] at hw
          | y :: W', e =>
            obtain ⟨rfl, e2⟩ := List.cons.inj e
            exact ⟨W', rfl, Prod.ext e2 h2⟩
        have hgo : ∀ W'', W = finL cur ++ ([c], p) :: W'' → lexL l (p + 1) none = (W'' ++ (w, q) :: W2, note) → ∃ pre post, c :: l = pre ++ (w ++ post) ∧ stL pre p cur = some (W, none) ∧ q = p + pre.length ∧ endL post ∧ wdOk w = true ∧ lexL post (p + pre.length + w.length) none = (W2, note) := fun W'' e1 e2 => by
          rcases lex_dec l (p + 1) none W'' W2 w q note e2 hw hn with ⟨v, u, post, e, _⟩ | ⟨pre, post, i1, i2, i3, i4, i5, i6⟩
          · cases e
          · refine ⟨c :: pre, post, by rw [i1]; rfl, ?_, by simp; omega, i4, i5, by rw [show p + (c :: pre).length = p + 1 + pre.length by simp; omega]; exact i6⟩
            rw [stL, remL_ne pre hc, if_neg Bool.false_ne_true, if_pos hs, i2, e1]
            rfl
        cases cur with
        | none =>
          obtain ⟨W'', e1, e2⟩ := hno W h1
          exact .inr (hgo W'' e1 e2)
        | some x =>
          match W, h1 with
          | [], h1 =>
            obtain ⟨rfl, e2⟩ := List.cons.inj h1
            refine .inl ⟨w, [], c :: l, rfl, rfl, by simp, rfl, .inl hs, ?_⟩
            rw [lexL, remL_ne l hc, if_neg Bool.false_ne_true, if_pos hs]
            exact Prod.ext e2 h2
          | y :: W, h1 =>
            obtain ⟨rfl, e2⟩ := List.cons.inj h1
            obtain ⟨W'', e1, e3⟩ := hno W e2
            exact .inr (hgo W'' (by rw [e1]; rfl) e3)
      · rename_i hs
        split at h
        · rename_i hb
          have hc := blk_ne hb
          obtain ⟨h1, h2⟩ := Prod.mk.inj h
          have hgo : ∀ W'', W = finL cur ++ W'' → lexL l (p + 1) none = (W'' ++ (w, q) :: W2, note) → ∃ pre post, c :: l = pre ++ (w ++ post) ∧ stL pre p cur = some (W, none) ∧ q = p + pre.length ∧ endL post ∧ wdOk w = true ∧ lexL post (p + pre.length + w.length) none = (W2, note) := fun W'' e1 e2 => by
            rcases lex_dec l (p + 1) none W'' W2 w q note e2 hw hn with ⟨v, u, post, e, _⟩ | ⟨pre, post, i1, i2, i3, i4, i5, i6⟩
            · cases e
            · refine ⟨c :: pre, post, by rw [i1]; rfl, ?_, by simp; omega, i4, i5, by rw [show p + (c :: pre).length = p + 1 + pre.length by simp; omega]; exact i6⟩
              rw [stL, remL_ne pre hc, if_neg Bool.false_ne_true, if_neg hs, if_pos hb, i2, e1]
              rfl
          cases cur with
          | none => exact .inr (hgo W rfl (Prod.ext h1 h2))
          | some x =>
            match W, h1 with
            | [], h1 =>
              obtain ⟨rfl, e2⟩ := List.cons.inj h1
              refine .inl ⟨w, [], c :: l, rfl, rfl, by simp, rfl, .inr hb, ?_⟩
              rw [lexL, remL_ne l hc, if_neg Bool.false_ne_true, if_neg hs, if_pos hb]
              exact Prod.ext e2 h2
            | y :: W, h1 =>
              obtain ⟨rfl, e2⟩ := List.cons.inj h1
              exact .inr (hgo W rfl (Prod.ext e2 h2))
        · rename_i hb
          have hcw : wdB c = true := by unfold wdB; rw [Bool.not_eq_true] at hs hb; rw [hs, hb]; rfl
          rcases lex_dec l (p + 1) (addL p c cur) W W2 w q note h hw hn with ⟨v, u, post, e, i1, i2, i3, i4, i5⟩ | ⟨pre, post, i1, i2, i3, i4, i5, i6⟩
          · cases cur with
            | none =>
              obtain ⟨rfl, rfl⟩ := Prod.mk.inj (Option.some.inj e)
              refine .inr ⟨[], post, by rw [i2, i3]; rfl, by rw [i1]; rfl, rfl, i4, ?_, by rw [i2]; simp at i5 ⊢; rw [← i5]; congr 1; omega⟩
              unfold wdOk
              rw [hw, Bool.and_true]
              have h3 : [47, 47].isPrefixOf w = false := by
                cases h4 : [47, 47].isPrefixOf w with
                | false => rfl
                | true =>
                  obtain ⟨t, ht⟩ := List.isPrefixOf_iff_prefix.1 h4
                  have : remL none (c :: l) = true := by
                    rw [i3, show c :: (u ++ post) = w ++ post by rw [i2]; rfl, ← ht]; rfl
                  rw [this] at hr; cases hr
              rw [h3]
              cases w with
              | nil => exact absurd rfl hn
              | cons => rfl
            | some x =>
              obtain ⟨y, z⟩ := x
              obtain ⟨rfl, rfl⟩ := Prod.mk.inj (Option.some.inj e)
              exact .inl ⟨y, c :: u, post, rfl, i1, by rw [i2]; simp, by rw [i3]; rfl, i4, by rw [← i5]; congr 1; simp; omega⟩
          · refine .inr ⟨c :: pre, post, by rw [i1]; rfl, ?_, by simp; omega, i4, i5, by rw [show p + (c :: pre).length = p + 1 + pre.length by simp; omega]; exact i6⟩
            have hr2 : remL cur (c :: pre) = false := by
              cases h3 : remL cur (c :: pre) with
              | false => rfl
              | true => rw [i1, remL_app h3] at hr; cases hr
            rw [stL, hr2, if_neg Bool.false_ne_true, if_neg hs, if_neg hb]
            exact i2
def txV (v : S23) : ByteArray := textV v.f0 v.f1 v.f2 v.f3 v.f4
def okV (v : S23) : Bool := verOk v.f0 v.f1 v.f2 v.f3 v.f4
theorem txV_eq {v : S23} (h : okV v = true) : (txV v).data.toList = bytesV v.f0.toNat v.f1.toNat v.f2.toNat v.f3.data.toList v.f4.data.toList := textV_ok h
theorem txV_size (v : S23) : (txV v).size ≤ 100 := by
  unfold txV textV
  split
  · rename_i hv
    rw [ba_size]
    exact bytesV_len hv
  · exact Nat.zero_le _
theorem bytesV_no {a b c : Int} {p q : ByteArray} (h : verOk a b c p q = true) {d : UInt8} (h1 : isDig d = false) (h2 : isIdent d = false) (h3 : d ≠ 46) (h4 : d ≠ 45) (h5 : d ≠ 43) (h6 : d ≠ 118) : d ∉ bytesV a.toNat b.toNat c.toNat p.data.toList q.data.toList := fun hm => by
  have v := verIs h
  have a9 := v.a9
  have b9 := v.b9
  have c9 := v.c9
  unfold bytesV at hm
  rcases List.mem_cons.1 hm with e | hm
  · exact h6 e
  · rcases List.mem_append.1 hm with hm | hm
    · rcases List.mem_append.1 hm with hm | hm
      · exact nums_no (by omega) (by omega) (by omega) h1 h3 hm
      · exact tail_no h4 (pre_no v.pre h2 h3) hm
    · exact tail_no h5 (build_no v.build h2 h3) hm
def plainB (c : UInt8) : Bool := wdB c && !oddB c && c != 47 && c != 10
theorem plain_or (c : UInt8) : plainB c = true ∨ (isDig c = false ∧ isIdent c = false ∧ c ≠ 46 ∧ c ≠ 45 ∧ c ≠ 43 ∧ c ≠ 118) :=
  byte_all (p := fun c => plainB c = true ∨ (isDig c = false ∧ isIdent c = false ∧ c ≠ 46 ∧ c ≠ 45 ∧ c ≠ 43 ∧ c ≠ 118)) (by decide +kernel) c
theorem txV_plain {v : S23} (h : okV v = true) : (txV v).data.toList.all plainB = true := by
  rw [List.all_eq_true]
  intro c hc
  rw [txV_eq h] at hc
  rcases plain_or c with h1 | ⟨h1, h2, h3, h4, h5, h6⟩
  · exact h1
  · exact absurd hc (bytesV_no h h1 h2 h3 h4 h5 h6)
/-- A word of such bytes. -/
def plW (w : List UInt8) : Bool := !w.isEmpty && w.all plainB
theorem txV_word {v : S23} (h : okV v = true) : plW (txV v).data.toList = true := by
  unfold plW
  rw [txV_plain h, txV_eq h]
  rfl
theorem plW_of {w : List UInt8} (h : plW w = true) : w ≠ [] ∧ w.all wdB = true ∧ w.any oddB = false ∧ wdOk w = true ∧ (10 : UInt8) ∉ w := by
  unfold plW at h
  rw [Bool.and_eq_true] at h
  obtain ⟨h0, h⟩ := h
  have hp : ∀ c ∈ w, wdB c = true ∧ oddB c = false ∧ c ≠ 47 ∧ c ≠ 10 := fun c hc => by
    have := List.all_eq_true.1 h c hc
    unfold plainB at this
    simp only [Bool.and_eq_true, bne_iff_ne, ne_eq, Bool.not_eq_true'] at this
    exact ⟨this.1.1.1, this.1.1.2, this.1.2, this.2⟩
  have hn : w ≠ [] := fun e => by rw [e] at h0; cases h0
  have ha : w.all wdB = true := List.all_eq_true.2 fun c hc => (hp c hc).1
  refine ⟨hn, ha, ?_, ?_, fun h10 => (hp 10 h10).2.2.2 rfl⟩
  · rw [Bool.eq_false_iff]
    intro e
    obtain ⟨c, hc, ho⟩ := List.any_eq_true.1 e
    rw [(hp c hc).2.1] at ho
    cases ho
  · unfold wdOk
    rw [ha, h0, Bool.true_and, Bool.true_and]
    match w, hn with
    | c :: w, _ =>
      have := (hp c List.mem_cons_self).2.2.1
      have h2 : [47, 47].isPrefixOf (c :: w) = false := by
        show ((47 : UInt8) == c && [47].isPrefixOf w) = false
        rw [show ((47 : UInt8) == c) = false by simpa using fun e => this e.symm]
        rfl
      rw [h2]
      rfl
/-- What is read as a version is its text; a version's text is read as it was. -/
theorem verP_text {s : ByteArray} (h : verI s = true) : okV (verP s) = true ∧ txV (verP s) = s := by
  unfold verI parsed at h
  unfold verP parsed
  cases hp : parseV s.data.toList with
  | none => rw [hp] at h; cases h
  | some r =>
    obtain ⟨a, b, c, p, q⟩ := r
    obtain ⟨h1, h2⟩ := parseV_some hp
    refine ⟨h1, by_data ?_⟩
    show (textV a b c (ba p) (ba q)).data.toList = _
    rw [textV_ok h1, h2]
    rfl
theorem verP_of {v : S23} (h : okV v = true) : verI (txV v) = true ∧ verP (txV v) = v := by
  have hp := parseV_of h
  rw [← txV_eq h] at hp
  unfold verI verP parsed
  rw [hp]
  exact ⟨rfl, rfl⟩
/-- The words of a line, one of them replaced. -/
theorem lex_none (l : List UInt8) (p p' : Nat) (h : (lexL l p none).1 = []) : (lexL l p' none).1 = [] := by
  have h1 := lex_shift p l 0 none
  have h2 := lex_shift p' l 0 none
  rw [Nat.zero_add] at h1 h2
  rw [show (none : Option LW).map (shL p) = none from rfl] at h1
  rw [show (none : Option LW).map (shL p') = none from rfl] at h2
  rw [h1] at h
  rw [h2]
  show List.map _ _ = []
  rw [List.map_eq_nil_iff.1 h]
  rfl
theorem words_last {l : List UInt8} (ho : l.any oddB = false) {W : List Wd} {b : Wd} (h : wordsOf (ba l) = W ++ [b]) (hb : plW b.f0.data.toList = true) :
    ∃ pre post, l = pre ++ (b.f0.data.toList ++ post) ∧ b.f1 = (pre.length : Int) ∧ ∀ w', plW w' = true → (pre ++ (w' ++ post)).any oddB = false ∧ wordsOf (ba (pre ++ (w' ++ post))) = W ++ [⟨ba w', b.f1⟩] := by
  rw [wordsOf_eq, ba_data, ho, if_neg Bool.false_ne_true] at h
  obtain ⟨X, Y, hXY, hX, hY⟩ := List.map_eq_append_iff.1 h
  obtain ⟨y, Z, rfl, hy, hZ⟩ := List.map_eq_cons_iff.1 hY
  obtain rfl := List.map_eq_nil_iff.1 hZ
  obtain ⟨w, q⟩ := y
  obtain ⟨f1, f2⟩ : ba w = b.f0 ∧ (q : Int) = b.f1 := by rw [← hy]; exact ⟨rfl, rfl⟩
  have hwb : b.f0.data.toList = w := by rw [← f1]; rfl
  rw [hwb] at hb ⊢
  obtain ⟨g1, g2, g3, g4, g5⟩ := plW_of hb
  rcases lex_dec l 0 none X [] w q _ (Prod.ext hXY rfl) g2 g1 with ⟨v, u, post, e, _⟩ | ⟨pre, post, i1, i2, i3, i4, i5, i6⟩
  · cases e
  · refine ⟨pre, post, i1, by rw [← f2, i3, Nat.zero_add], fun w' hw' => ?_⟩
    obtain ⟨k1, k2, k3, k4, k5⟩ := plW_of hw'
    have hodd : (pre ++ (w' ++ post)).any oddB = false := by
      rw [i1, List.any_append, List.any_append] at ho
      simp only [Bool.or_eq_false_iff] at ho
      rw [List.any_append, List.any_append, ho.1, k3, ho.2.2]
      rfl
    refine ⟨hodd, ?_⟩
    have hpost := lex_none post _ (0 + pre.length + w'.length) (congrArg Prod.fst i6)
    rw [wordsOf_eq, ba_data, hodd, if_neg Bool.false_ne_true, lex_app pre (w' ++ post) 0 none X i2, lex_word w' post _ k4 i4]
    simp only [List.map_append, List.map_cons]
    rw [hX, hpost, ← f2, i3]
    rfl
end Go.Proofs.YtmbpefnhkimplaaGreatDoor
end
