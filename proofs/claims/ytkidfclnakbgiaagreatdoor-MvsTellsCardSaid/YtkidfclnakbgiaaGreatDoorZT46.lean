/- The texts TlPr in one file, without what these claims do not use (put together by prune2.py). -/
import Derived.Test.YtkidfclnakbgiaaGreatDoorZT42
import Derived.Test.YtkidfclnakbgiaaGreatDoorZT43
import Derived.Test.YtkidfclnakbgiaaGreatDoorZT45
section
namespace Go.Proofs.YtkidfclnakbgiaaGreatDoor
open Go Go.RowKit Go.Proofs Go.Proofs.YtkidfclnakbgiaaGreatDoorW.PrintWords Go.Proofs.YtkidfclnakbgiaaGreatDoor.K0 Go.Proofs.YtkidfclnakbgiaaGreatDoor.RD Go.Proofs.YtkidfclnakbgiaaGreatDoor.RS Go.Proofs.YtkidfclnakbgiaaGreatDoor.RT
set_option linter.unusedVariables false
set_option linter.unusedSimpArgs false
theorem mlen_le (a : List Rq) : ∀ b : List Rq, (mv.more a b).length ≤ a.length + b.length := by
  intro b
  induction b generalizing a with
  | nil => exact Nat.le_refl _
  | cons x b ih =>
    show (mv.more (mv.add a x) b).length ≤ _
    have h1 := ih (mv.add a x)
    have h2 : (mv.add a x).length ≤ a.length + 1 := by unfold Mv.add; split <;> simp
    rw [List.length_cons]; omega
theorem more_snoc (a b : List Rq) (x : Rq) : mv.more a (b ++ [x]) = mv.add (mv.more a b) x := by unfold Mv.more; rw [List.foldl_append]; rfl
theorem refmore_f (a b : List Rq) (hl : a.length + b.length ≤ 1000000) : Ev (fun k => armadaref17_more.f k a b) (mv.more a b) := by
  refine ev_from b.length (fun k n => armadaref17_more.l0 k (mv.more a (b.take n)) b (n : Int)) (fun _ => mv.more a b) ?_ ?_ 0 (Nat.zero_le _)
  · refine ev_succ ?_
    simp only [armadaref17_more.l0, Int.lt_irrefl, if_false, List.take_length]
    exact Ev.now _
  · intro n hn h
    obtain ⟨x, e1, e2, e3⟩ := rdR_at hn
    have ht : b.take (n + 1) = b.take n ++ [x] := by rw [List.take_add_one, e3]; rfl
    have hml := mlen_le a (b.take n)
    rw [List.length_take] at hml
    simp only [ht, more_snoc] at h
    refine ev_succ ?_
    simp only [armadaref17_more.l0, if_pos (show (n : Int) < (b.length : Int) from by omega), if_pos (show (0 : Int) ≤ (n : Int) from by omega), e1, wrap_s (show n < 9223372036854775807 by omega)]
    refine Ev.bind (May_f x) ?_
    cases hm : mv.may x
    · have e : mv.add (mv.more a (b.take n)) x = mv.more a (b.take n) := by unfold Mv.add; rw [if_neg (by rw [hm]; simp)]
      rw [e] at h
      simp only [Bool.false_eq_true, if_false]
      exact h
    · simp only [if_true]
      refine Ev.bind (In_f (mv.more a (b.take n)) x (by omega)) ?_
      by_cases hi : x ∈ mv.more a (b.take n)
      · have e : mv.add (mv.more a (b.take n)) x = mv.more a (b.take n) := by unfold Mv.add; rw [if_neg (fun h => h.2 hi)]
        rw [e] at h
        simp only [decide_eq_true hi, if_true]
        exact h
      · have e : mv.add (mv.more a (b.take n)) x = mv.more a (b.take n) ++ [x] := by unfold Mv.add; rw [if_pos ⟨hm, hi⟩]
        rw [e] at h
        simp only [decide_eq_false hi, Bool.false_eq_true, if_false, if_pos (show (mv.more a (b.take n)).length < 1954687338268 from by omega)]
        exact h
theorem refreq_f (l : List NdR) (y : Rq) (hl : l.length ≤ 1000000) : Ev (fun k => armadaref17_requires.f k l y.f0 y.f1.f0 y.f1.f1 y.f1.f2 y.f1.f3 y.f1.f4) (Mv.reqsOf (l.map ndR) y) := by
  refine ev_from l.length (fun k n => armadaref17_requires.l0 k l (n : Int) y.f0 y.f1.f0 y.f1.f1 y.f1.f2 y.f1.f3 y.f1.f4) (fun n => Mv.reqsOf ((l.drop n).map ndR) y) ?_ ?_ 0 (Nat.zero_le _)
  · refine ev_succ ?_
    simp only [armadaref17_requires.l0, Int.lt_irrefl, if_false]
    exact ev_some (by rw [List.drop_eq_nil_of_le (Nat.le_refl _)]; rfl)
  · intro n hn h
    obtain ⟨x, e1, e2, e3⟩ := rdN_at hn
    refine ev_succ ?_
    simp only [armadaref17_requires.l0, if_pos (show (n : Int) < (l.length : Int) from by omega), if_pos (show (0 : Int) ≤ (n : Int) from by omega), e1, wrap_s (show n < 9223372036854775807 by omega), eq_cond]
    simp only [e2, List.map_cons]
    by_cases hx : x.f0 = y
    · have e : Mv.reqsOf (ndR x :: (l.drop (n + 1)).map ndR) y = x.f1 := by unfold Mv.reqsOf; rw [if_pos (show (ndR x).1 = y from hx)]; rfl
      simp only [decide_eq_true hx, if_true, e]
      exact Ev.now _
    · have e : Mv.reqsOf (ndR x :: (l.drop (n + 1)).map ndR) y = Mv.reqsOf ((l.drop (n + 1)).map ndR) y := by rw [Mv.reqsOf, if_neg (show ¬ (ndR x).1 = y from hx)]
      simp only [decide_eq_false hx, Bool.false_eq_true, if_false, e]
      exact h
theorem reqs_len : ∀ (l : List (Rq × List Rq)) (q : Rq), (Mv.reqsOf l q).length ≤ (l.flatMap (·.2)).length
  | [], _ => Nat.le_refl _
  | n :: l, q => by
    rw [List.flatMap_cons, List.length_append]
    unfold Mv.reqsOf
    split
    · omega
    · have := reqs_len l q; omega
theorem refreached_l0 (root : List Rq) (l : List NdR) (hl : l.length ≤ 100000) (hb : root.length + ((l.map ndR).flatMap (·.2)).length ≤ 100000) : ∀ (f i : Nat) (all : List Rq), mv.Inv root (l.map ndR) i all → (Mv.univ root (l.map ndR)).length + 1 ≤ f + i → i ≤ all.length → Ev (fun k => armadaref17_Reached.l0 k l all (i : Int)) (mv.reachL (l.map ndR) f i all) := by
  intro f
  induction f with
  | zero =>
    intro i all hI hf hi
    have := Mv.Inv.len hI
    omega
  | succ f ih =>
    intro i all hI hf hi
    have hlen := Mv.Inv.len hI
    rw [univ_len] at hlen
    refine ev_succ ?_
    by_cases hlt : i < all.length
    · obtain ⟨x, e1, e2, e3⟩ := rdR_at hlt
      rw [Mv.reachL_step mv e3]
      simp only [armadaref17_Reached.l0, if_pos (show (i : Int) < (all.length : Int) from by omega), if_pos (show (0 : Int) ≤ (i : Int) from by omega), e1, wrap_s (show i < 9223372036854775807 by omega)]
      have hr := reqs_len (l.map ndR) x
      refine Ev.bind (refreq_f l x (by omega)) ?_
      refine Ev.bind (refmore_f all _ (by omega)) ?_
      obtain ⟨t, ht⟩ := mv.more_prefix (Mv.reqsOf (l.map ndR) x) all
      exact ih (i + 1) _ (Mv.Inv.next hI e3) (by omega) (by rw [ht, List.length_append]; omega)
    · rw [Mv.reachL_stop mv (by omega)]
      simp only [armadaref17_Reached.l0, if_neg (show ¬ (i : Int) < (all.length : Int) from by omega)]
      exact Ev.now _
theorem refreached_f (root : List Rq) (l : List NdR) (hl : l.length ≤ 100000) (hb : root.length + ((l.map ndR).flatMap (·.2)).length ≤ 100000) : Ev (fun k => armadaref17_Reached.f k root l) (mv.reached root (l.map ndR)) := by
  unfold armadaref17_Reached.f
  refine Ev.bind (refmore_f [] root (by simp; omega)) ?_
  exact refreached_l0 root l hl hb _ 0 _ (Mv.Inv.start mv root (l.map ndR)) (by omega) (Nat.zero_le _)
theorem refof_f (l : List Rq) (p : ByteArray) (hl : l.length ≤ 1000000) : Ev (fun _ => armadaref17_of.f l p) (ofV (mv.best l p.data.toList)) := by
  unfold armadaref17_of.f
  rw [if_pos hl]
  exact Ev.now _
theorem put_laid (l : List Rq) (r : Rq) (hl : l.length ≤ 1000000) : ∀ (d n : Nat) (A : List Rq), l.length - n = d → n ≤ l.length → (∀ y ∈ l.drop n, mv.path y ≠ mv.path r) → A.length ≤ n + 1 → Ev (fun k => armadaref17_put.l0 k l A true (n : Int) r.f0 r.f1.f0 r.f1.f1 r.f1.f2 r.f1.f3 r.f1.f4) (A ++ l.drop n) := by
  intro d
  induction d with
  | zero =>
    intro n A hd hn hne hA
    have : n = l.length := by omega
    subst this
    refine ev_succ ?_
    simp only [armadaref17_put.l0, Int.lt_irrefl, if_false, if_true]
    exact ev_some (by rw [List.drop_eq_nil_of_le (Nat.le_refl _), List.append_nil])
  | succ d ih =>
    intro n A hd hn hne hA
    obtain ⟨x, e1, e2, e3⟩ := rdR_at (show n < l.length by omega)
    have hx := hne x (by rw [e2]; exact List.mem_cons_self)
    refine ev_succ ?_
    simp only [armadaref17_put.l0, if_pos (show (n : Int) < (l.length : Int) from by omega), if_pos (show (0 : Int) ≤ (n : Int) from by omega), e1, wrap_s (show n < 9223372036854775807 by omega), if_neg (fun e => hx (path_list.1 e)), if_true, if_pos (show A.length < 1954687338268 from by omega)]
    have := ih (n + 1) (A ++ [x]) (by omega) (by omega) (fun y hy => hne y (by rw [e2]; exact List.mem_cons_of_mem _ hy)) (by rw [List.length_append]; simp; omega)
    rw [e2, show A ++ x :: l.drop (n + 1) = (A ++ [x]) ++ l.drop (n + 1) by simp]
    exact this
theorem refput_f (l : List Rq) (r : Rq) (hl : l.length ≤ 100000) (hr : mv.Rising l) : Ev (fun k => armadaref17_put.f k l r.f0 r.f1.f0 r.f1.f1 r.f1.f2 r.f1.f3 r.f1.f4) (mv.put l r) := by
  suffices H : ∀ (d n : Nat), l.length - n = d → n ≤ l.length → mv.put l r = l.take n ++ mv.put (l.drop n) r → Ev (fun k => armadaref17_put.l0 k l (l.take n) false (n : Int) r.f0 r.f1.f0 r.f1.f1 r.f1.f2 r.f1.f3 r.f1.f4) (mv.put l r) from H _ 0 rfl (Nat.zero_le _) (by rw [List.take_zero, List.drop_zero]; rfl)
  intro d
  induction d with
  | zero =>
    intro n hd hn hp
    have : n = l.length := by omega
    subst this
    refine ev_succ ?_
    simp only [armadaref17_put.l0, Int.lt_irrefl, if_false, Bool.false_eq_true, List.take_length, if_pos (show l.length < 1954687338268 from by omega)]
    refine ev_some ?_
    rw [hp, List.take_length, List.drop_eq_nil_of_le (Nat.le_refl _)]
    rfl
  | succ d ih =>
    intro n hd hn hp
    obtain ⟨x, e1, e2, e3⟩ := rdR_at (show n < l.length by omega)
    have ht : l.take (n + 1) = l.take n ++ [x] := by rw [List.take_add_one, e3]; rfl
    refine ev_succ ?_
    simp only [armadaref17_put.l0, if_pos (show (n : Int) < (l.length : Int) from by omega), if_pos (show (0 : Int) ≤ (n : Int) from by omega), e1, wrap_s (show n < 9223372036854775807 by omega), Bool.false_eq_true, if_false]
    by_cases hx : mv.path x = mv.path r
    · simp only [if_pos (path_list.2 hx)]
      refine ev_some ?_
      rw [hp, e2]
      unfold Mv.put
      rw [if_pos hx, ← e2, List.take_append_drop]
    · simp only [if_neg (fun e => hx (path_list.1 e))]
      have hb : Op.bytesLess r.f0.toList x.f0.toList = decide (mv.lt r x) := by
        rw [ByteArray.toList_eq, ByteArray.toList_eq, bl_cb]
        exact decide_eq_decide.2 Iff.rfl
      have hlen : (l.take n).length = n := by rw [List.length_take]; omega
      by_cases hlt : mv.lt r x
      · simp only [hb, decide_eq_true hlt, if_true, if_pos (show (l.take n).length < 1954687338268 from by omega), Option.bind_some, if_pos (show (l.take n ++ [r]).length < 1954687338268 from by rw [List.length_append]; simp; omega)]
        have hne : ∀ y ∈ l.drop (n + 1), mv.path y ≠ mv.path r := by
          intro y hy e
          have hxy : mv.lt x y := by
            have h2 : (x :: l.drop (n + 1)).Pairwise mv.lt := e2 ▸ List.Pairwise.sublist (List.drop_sublist n l) hr
            exact List.rel_of_pairwise_cons h2 hy
          exact Mv.lt_ne (Mv.lt_trans hlt hxy) e.symm
        have := put_laid l r (by omega) _ (n + 1) (l.take n ++ [r] ++ [x]) rfl (by omega) hne (by simp only [List.length_append, hlen]; simp)
        refine ev_eq this ?_
        rw [hp, e2]
        conv => rhs; unfold Mv.put
        rw [if_neg hx, if_pos hlt]
        simp
      · simp only [hb, decide_eq_false hlt, Bool.false_eq_true, if_false, if_pos (show (l.take n).length < 1954687338268 from by omega)]
        have := ih (n + 1) (by omega) (by omega) (by
          rw [hp, e2, ht]
          conv => lhs; unfold Mv.put
          rw [if_neg hx, if_neg hlt]
          simp)
        rw [ht] at this
        exact this
theorem put_len (l : List Rq) (r : Rq) : (mv.put l r).length ≤ l.length + 1 := by
  induction l with
  | nil => simp [Mv.put]
  | cons x l ih =>
    unfold Mv.put
    split
    · simp
    · split
      · simp
      · simp only [List.length_cons]; omega
theorem reflist_f (root : List Rq) (l : List NdR) (hl : l.length ≤ 10000) (hb : root.length + ((l.map ndR).flatMap (·.2)).length ≤ 10000) : Ev (fun k => armadaref17_List.f k root l) (mv.list root (l.map ndR)) := by
  unfold armadaref17_List.f
  refine Ev.bind (refreached_f root l (by omega) (by omega)) ?_
  have hal := reached_len root (l.map ndR)
  have hmay : ∀ r ∈ mv.reached root (l.map ndR), mv.may r = true := fun r h => mv.reached_may h
  show Ev _ (mv.listed (mv.reached root (l.map ndR)))
  generalize mv.reached root (l.map ndR) = all at hal hmay
  obtain ⟨F, hF⟩ : ∃ F : Nat → List Rq, F = fun n => (all.take n).foldl (fun out r => mv.put out ((mv.best all (mv.path r)).getD r)) [] := ⟨_, rfl⟩
  have hs : ∀ n x, all[n]? = some x → F (n + 1) = mv.put (F n) ((mv.best all (mv.path x)).getD x) := fun n x hx => by
    rw [hF]
    simp only [List.take_add_one, hx, Option.toList_some, List.foldl_append, List.foldl_cons, List.foldl_nil]
  have hR : ∀ n, mv.Rising (F n) ∧ (F n).length ≤ n := fun n => by
    induction n with
    | zero => rw [hF]; exact ⟨List.Pairwise.nil, Nat.le_refl _⟩
    | succ n ih =>
      by_cases hn : n < all.length
      · have e := hs n _ (List.getElem?_eq_getElem hn)
        rw [e]
        have := put_len (F n) ((mv.best all (mv.path all[n])).getD all[n])
        exact ⟨mv.put_rising _ ih.1, by omega⟩
      · have e : F (n + 1) = F n := by rw [hF]; simp only; rw [List.take_of_length_le (by omega), List.take_of_length_le (by omega)]
        rw [e]; exact ⟨ih.1, by omega⟩
  refine ev_from all.length (fun k n => armadaref17_List.l0 k (F n) all (n : Int)) (fun _ => mv.listed all) ?_ ?_ 0 (Nat.zero_le _) |> fun h => by
    have e : F 0 = [] := by rw [hF]; rfl
    simp only [e] at h
    exact h
  · refine ev_succ ?_
    simp only [armadaref17_List.l0, Int.lt_irrefl, if_false]
    refine ev_some ?_
    rw [hF]; simp only [List.take_length]; rfl
  · intro n hn h
    obtain ⟨x, e1, e2, e3⟩ := rdR_at hn
    have hx := List.mem_of_getElem? e3
    obtain ⟨y, hy⟩ := Mv.best_has mv_good hmay hx
    have hFn := hs n x e3
    rw [hy] at hFn
    simp only [hFn, Option.getD_some] at h
    refine ev_succ ?_
    simp only [armadaref17_List.l0, if_pos (show (n : Int) < (all.length : Int) from by omega), if_pos (show (0 : Int) ≤ (n : Int) from by omega), e1, wrap_s (show n < 9223372036854775807 by omega)]
    refine Ev.bind (ev_eq (refof_f all x.f0 (by omega)) (congrArg ofV hy)) ?_
    simp only [ofV, Option.getD_some]
    exact Ev.bind (refput_f (F n) y (by have := (hR n).2; omega) (hR n).1) h
/-- Of a list that rises the greatest one of a path is the one of that path. -/
theorem best_any {L : List Rq} (hm : ∀ r ∈ L, mv.may r = true) (hr : mv.Rising L) (r : Rq) : (match mv.best L (mv.path r) with | some y => decide (mv.cmp y r > 0) | none => false) = L.any fun y => decide (mv.path y = mv.path r) && decide (mv.cmp y r > 0) := by
  rw [Bool.eq_iff_iff, List.any_eq_true]
  cases hb : mv.best L (mv.path r) with
  | none =>
    constructor
    · intro h; cases h
    · rintro ⟨y, hy, h⟩
      rw [Bool.and_eq_true, decide_eq_true_eq] at h
      obtain ⟨x, hx⟩ := Mv.best_has mv_good hm hy
      rw [h.1, hb] at hx; cases hx
  | some x =>
    obtain ⟨h1, h2, h3⟩ := Mv.best_some mv_good hm hb
    constructor
    · intro h; exact ⟨x, h1, by rw [Bool.and_eq_true, decide_eq_true_eq]; exact ⟨h2, h⟩⟩
    · rintro ⟨y, hy, h⟩
      rw [Bool.and_eq_true, decide_eq_true_eq] at h
      obtain rfl := Mv.rising_path hr hy h1 (h.1.trans h2.symm)
      exact h.2
end Go.Proofs.YtkidfclnakbgiaaGreatDoor
end
