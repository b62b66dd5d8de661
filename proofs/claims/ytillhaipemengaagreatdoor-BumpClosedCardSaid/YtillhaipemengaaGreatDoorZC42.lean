/- The texts BpRg, BpCl in one file, without what these claims do not use (put together by prune2.py). -/
import Derived.Test.YtillhaipemengaaGreatDoorZC39
import Derived.Test.YtillhaipemengaaGreatDoorZC41
import Derived.Test.YtillhaipemengaaGreatDoorZC40
section
namespace Go.Proofs.YtillhaipemengaaGreatDoor.Sm
open Go Go.RowKit Go.Proofs Go.Proofs.YtillhaipemengaaGreatDoor Go.Proofs.YtillhaipemengaaGreatDoorW.PrintWords Go.Proofs.YtillhaipemengaaGreatDoor.K0 Go.Proofs.YtillhaipemengaaGreatDoor.R1 Go.Proofs.YtillhaipemengaaGreatDoor.RD Go.Proofs.YtillhaipemengaaGreatDoor.RS
set_option linter.unusedVariables false
set_option linter.unusedSimpArgs false
theorem rd_int {l : List Int} {n : Nat} (h : n < l.length) : ∃ x, rd l (n : Int) = x ∧ l.drop n = x :: l.drop (n + 1) ∧ l[n]? = some x := by
  refine ⟨l[n], ?_, List.drop_eq_getElem_cons h, List.getElem?_eq_getElem h⟩
  unfold rd
  rw [Int.toNat_natCast, List.getD_eq_getElem?_getD, List.getElem?_eq_getElem h]; rfl
theorem In_l0 (l : List Int) (z : Int) (hl : l.length ≤ 9223372036854775807) : ∀ (d n : Nat), l.length - n = d → Ev (fun k => armadaref16_In.l0 k l z (n : Int)) ((l.drop n).contains z) := by
  intro d
  induction d with
  | zero =>
    intro n hd
    refine Ev.step (f := fun _ => some ((l.drop n).contains z)) (fun k => ?_) (Ev.now _)
    rw [armadaref16_In.l0, if_neg (by omega), drop_end (by omega)]; rfl
  | succ d ih =>
    intro n hd
    obtain ⟨x, h1, h2, h3⟩ := rd_int (l := l) (n := n) (by omega)
    rw [h2, List.contains_cons]
    by_cases hx : x = z
    · refine Ev.step (f := fun _ => some (z == x || (l.drop (n + 1)).contains z)) (fun k => ?_) (Ev.now _)
      rw [armadaref16_In.l0, if_pos (by omega), if_pos (by omega), h1, if_pos hx, hx]; simp
    · have e : (z == x) = false := by simpa using fun h => hx h.symm
      rw [e, Bool.false_or]
      refine Ev.step (fun k => ?_) (ih (n + 1) (by omega))
      rw [armadaref16_In.l0, if_pos (by omega), if_pos (by omega), h1, if_neg hx, wrap_up (by omega)]
theorem In_ev (l : List Int) (z : Int) (hl : l.length ≤ 9223372036854775807) : Ev (fun k => armadaref16_In.f k l z) (l.contains z) := In_l0 l z hl _ 0 rfl
theorem requires_l0 (p d0 d1 : ByteArray) (l : List S69) (hl : l.length ≤ 9223372036854775807) : ∀ (d n : Nat), l.length - n = d → Ev (fun k => armadaref16_requires.l0 k p (n : Int) d0 d1 l) ((l.drop n).any fun r => r.f0.data.toList == p.data.toList) := by
  intro d
  induction d with
  | zero =>
    intro n hd
    refine Ev.step (f := fun _ => some ((l.drop n).any fun r => r.f0.data.toList == p.data.toList)) (fun k => ?_) (Ev.now _)
    rw [armadaref16_requires.l0, if_neg (by omega), drop_end (by omega)]; rfl
  | succ d ih =>
    intro n hd
    obtain ⟨x, h1, h2, h3⟩ := rd_req (l := l) (n := n) (by omega)
    rw [h2, List.any_cons]
    by_cases hx : x.f0.data.toList = p.data.toList
    · refine Ev.step (f := fun _ => some ((x.f0.data.toList == p.data.toList) || (l.drop (n + 1)).any fun r => r.f0.data.toList == p.data.toList)) (fun k => ?_) (Ev.now _)
      rw [armadaref16_requires.l0, if_pos (by omega), if_pos (by omega), h1, ByteArray.toList_eq, ByteArray.toList_eq, if_pos hx, hx]; simp
    · rw [beq_eq_false_iff_ne.2 hx, Bool.false_or]
      refine Ev.step (fun k => ?_) (ih (n + 1) (by omega))
      rw [armadaref16_requires.l0, if_pos (by omega), if_pos (by omega), h1, ByteArray.toList_eq, ByteArray.toList_eq, if_neg hx, wrap_up (by omega)]
theorem requires_ev (x : S63) (p : ByteArray) (hl : x.f2.length ≤ 9223372036854775807) : Ev (fun k => armadaref16_requires.f k x.f0 x.f1 x.f2 p) (needs x p) := requires_l0 p x.f0 x.f1 x.f2 hl _ 0 rfl
theorem paths_get {l : List S63} {n : Nat} {x : S63} (h : l[n]? = some x) : (pathsOf l)[n]? = some x.f1.data.toList := by simp [pathsOf, h]
theorem paths_len (l : List S63) : (pathsOf l).length = l.length := by simp [pathsOf]
def dupCode (l : List S63) : Int := if (pathsOf l).Nodup then 0 else 11
theorem check_l1 (l : List S63) (hl : l.length ≤ 12) : ∀ (d n : Nat), l.length - n = d → ((pathsOf l).take n).Nodup → Ev (fun k => armadaref16_Check.l1 k l (n : Int)) (dupCode l) := by
  intro d
  induction d with
  | zero =>
    intro n hd hn
    rw [List.take_of_length_le (by rw [paths_len]; omega)] at hn
    refine Ev.step (f := fun _ => some (dupCode l)) (fun k => ?_) (Ev.now _)
    rw [armadaref16_Check.l1, if_neg (by omega), dupCode, if_pos hn]
  | succ d ih =>
    intro n hd hn
    obtain ⟨x, h1, h2, h3⟩ := rd_mod (l := l) (n := n) (by omega)
    have hxp := paths_get h3
    suffices H : ∀ (e j : Nat), n - j = e → j ≤ n → (∀ i y, i < j → l[i]? = some y → y.f1.data.toList ≠ x.f1.data.toList) → Ev (fun k => armadaref16_Check.l2 k l (n : Int) (j : Int)) (dupCode l) by
      refine Ev.step (fun k => ?_) (H n 0 rfl (by omega) (fun i y hi => absurd hi (Nat.not_lt_zero _)))
      rw [armadaref16_Check.l1, if_pos (by omega)]; rfl
    intro e
    induction e with
    | zero =>
      intro j he hj hne
      obtain rfl : j = n := by omega
      refine Ev.step (fun k => ?_) (ih (j + 1) (by omega) ?_)
      · rw [armadaref16_Check.l2, if_neg (by omega), wrap_up (by omega)]
      · rw [List.take_add_one, hxp, List.nodup_append]
        refine ⟨hn, by simp, fun a ha b hb => ?_⟩
        obtain rfl : b = x.f1.data.toList := by simpa using hb
        obtain ⟨i, hi, ei⟩ := List.getElem_of_mem ha
        have hi2 : i < j := by rw [List.length_take] at hi; omega
        rw [List.getElem_take] at ei
        obtain ⟨y, hy⟩ : ∃ y, l[i]? = some y := ⟨_, List.getElem?_eq_getElem (by omega)⟩
        have := hne i y hi2 hy
        have e2 : (pathsOf l)[i]? = some a := by rw [List.getElem?_eq_getElem (by rw [paths_len]; omega), ei]
        rw [paths_get hy] at e2
        rw [← Option.some.inj e2]
        exact this
    | succ e ih2 =>
      intro j he hj hne
      obtain ⟨y, g1, g2, g3⟩ := rd_mod (l := l) (n := j) (by omega)
      by_cases hq : y.f1.data.toList = x.f1.data.toList
      · refine Ev.step (f := fun _ => some (dupCode l)) (fun k => ?_) (Ev.now _)
        rw [armadaref16_Check.l2, if_pos (by omega), if_pos (by omega), if_pos (by omega), if_pos (by omega), if_pos (by omega), g1, h1, ByteArray.toList_eq, ByteArray.toList_eq, if_pos hq, dupCode, if_neg]
        intro hnd
        have := List.pairwise_iff_getElem.1 hnd j n (by rw [paths_len]; omega) (by rw [paths_len]; omega) (by omega)
        apply this
        have e1 := paths_get g3
        rw [List.getElem?_eq_getElem (by rw [paths_len]; omega)] at e1 hxp
        rw [Option.some.inj e1, Option.some.inj hxp, hq]
      · refine Ev.step (fun k => ?_) (ih2 (j + 1) (by omega) (by omega) ?_)
        · rw [armadaref16_Check.l2, if_pos (by omega), if_pos (by omega), if_pos (by omega), if_pos (by omega), if_pos (by omega), g1, h1, ByteArray.toList_eq, ByteArray.toList_eq, if_neg hq, wrap_up (by omega)]
        · intro i u hi hu
          by_cases e : i = j
          · subst e
            obtain rfl := Option.some.inj (g3.symm.trans hu)
            exact hq
          · exact hne i u (by omega) hu
theorem check_l0g (l : List S63) (hl : l.length ≤ 12) : ∀ (d n : Nat), l.length - n = d → Ev (fun k => armadaref16_Check.l0 k l (n : Int)) (if ((l.drop n).all fun x => checkOk x.f1) = true then dupCode l else 6) := by
  intro d
  induction d with
  | zero =>
    intro n hd
    rw [drop_end (by omega)]
    refine Ev.step (fun k => ?_) (check_l1 l hl _ 0 rfl (by simp))
    rw [armadaref16_Check.l0, if_neg (by omega)]; rfl
  | succ d ih =>
    intro n hd
    obtain ⟨x, h1, h2, h3⟩ := rd_mod (l := l) (n := n) (by omega)
    rw [h2, List.all_cons]
    refine Ev.step (f := fun k => (armadaref08_Check.f k x.f1).bind fun t => if t = true then armadaref16_Check.l0 k l ((n + 1 : Nat) : Int) else some 6) (fun k => ?_) ?_
    · rw [armadaref16_Check.l0, if_pos (by omega), if_pos (by omega), h1, wrap_up (by omega)]
    · refine Ev.bind (a := checkOk x.f1) ⟨401, fun k hk => ref_Check_f x.f1 k (by omega)⟩ ?_
      cases checkOk x.f1 with
      | true => simpa using ih (n + 1) (by omega)
      | false => simpa using Ev.now (6 : Int)
theorem Check_ev (l : List S63) : Ev (fun k => armadaref16_Check.f k l) (gcheck l) := by
  unfold gcheck
  by_cases h : 12 < l.length
  · rw [if_pos h]
    refine Ev.congr (f := fun _ => some 1) (fun k => ?_) (Ev.now _)
    rw [armadaref16_Check.f, if_pos (by omega)]
  · rw [if_neg h]
    refine Ev.congr (fun k => ?_) (check_l0g l (by omega) _ 0 rfl)
    rw [armadaref16_Check.f, if_neg (by omega)]; rfl
theorem edges_l0 (l : List S63) (hl : l.length ≤ 12) (i : Nat) (x : S63) (hx : l[i]? = some x) (hr : x.f2.length ≤ 9223372036854775807) : ∀ (d n : Nat) (acc : List Int), l.length - n = d → acc.length ≤ n →
    Ev (fun k => armadaref16_Edges.l0 k l (i : Int) acc (n : Int)) (acc ++ edgesFrom x n (l.drop n)) := by
  have hil := (List.getElem?_eq_some_iff.1 hx).1
  have hxe : rd_T63 l (i : Int) = x := by
    obtain ⟨y, h1, _, h3⟩ := rd_mod hil
    rw [h1]; exact Option.some.inj (h3.symm.trans hx)
  intro d
  induction d with
  | zero =>
    intro n acc hd ha
    rw [drop_end (by omega)]
    refine Ev.step (f := fun _ => some acc) (fun k => ?_) (by simpa [edgesFrom] using Ev.now acc)
    rw [armadaref16_Edges.l0, if_neg (by omega)]
  | succ d ih =>
    intro n acc hd ha
    obtain ⟨m, h1, h2, h3⟩ := rd_mod (l := l) (n := n) (by omega)
    rw [edgesFrom_at x n _ m _ h2, ← List.append_assoc]
    refine Ev.step (f := fun k => (armadaref16_requires.f k x.f0 x.f1 x.f2 m.f1).bind fun t => if t = true then armadaref16_Edges.l0 k l (i : Int) (acc ++ [(n : Int)]) ((n + 1 : Nat) : Int) else armadaref16_Edges.l0 k l (i : Int) acc ((n + 1 : Nat) : Int)) (fun k => ?_) ?_
    · rw [armadaref16_Edges.l0, if_pos (by omega), if_pos (by omega), if_pos (by omega), if_pos (by omega), hxe, h1, if_pos (by omega), wrap_up (by omega)]
    · refine Ev.bind (requires_ev x m.f1 hr) ?_
      cases needs x m.f1 with
      | true => simpa using ih (n + 1) (acc ++ [(n : Int)]) (by omega) (by simp; omega)
      | false => simpa using ih (n + 1) acc (by omega) (by omega)
theorem Edges_ev (l : List S63) (hs : Short l) (i : Int) : Ev (fun k => armadaref16_Edges.f k l i) (edgesG l i) := by
  have out : ∀ b : Bool, b = true → Ev (fun k => armadaref16_Edges.j0 k l i ([] : List Int) b) ([] : List Int) := by
    rintro _ rfl
    refine Ev.step (f := fun _ => some []) (fun k => ?_) (Ev.now _)
    rw [armadaref16_Edges.j0, if_pos rfl]
  unfold armadaref16_Edges.f edgesG
  refine Ev.bind (Check_ev l) ?_
  by_cases h0 : gcheck l = 0
  · have hl := gcheck_len h0
    simp only [if_pos h0]
    by_cases hi : i < 0
    · simp only [if_pos hi, if_neg (show ¬ 0 ≤ i by omega)]
      exact out true rfl
    · simp only [if_neg hi, if_pos (show 0 ≤ i by omega)]
      by_cases hn : i < (l.length : Int)
      · simp only [if_pos hn, decide_eq_false (show ¬ i ≥ (l.length : Int) by omega)]
        obtain ⟨j, rfl⟩ : ∃ j : Nat, i = (j : Int) := ⟨i.toNat, by omega⟩
        obtain ⟨x, hx⟩ : ∃ x, l[j]? = some x := ⟨_, List.getElem?_eq_getElem (by omega)⟩
        have := edges_l0 l hl j x hx (hs x (List.mem_of_getElem? hx)) _ 0 [] rfl (by simp)
        rw [Int.toNat_natCast, edgesOf_at hx]
        refine Ev.step (fun k => ?_) (by simpa using this)
        rw [armadaref16_Edges.j0, if_neg (by simp)]
      · simp only [if_neg hn]
        exact out _ (by simp; omega)
  · simp only [if_neg h0]
    exact out true rfl
theorem edgesFrom_sorted (x : S63) : ∀ (l : List S63) (k : Nat), (edgesFrom x k l).Nodup
  | [], k => by simp [edgesFrom]
  | m :: l, k => by
    rw [edgesFrom_at x k _ m l rfl]
    split
    · refine List.nodup_cons.2 ⟨fun h => ?_, edgesFrom_sorted x l (k + 1)⟩
      obtain ⟨j, _, _, h2, _⟩ := mem_edgesFrom.1 h
      omega
    · exact edgesFrom_sorted x l (k + 1)
theorem edgesOf_nodup (l : List S63) (i : Nat) : (edgesOf l i).Nodup := by
  unfold edgesOf; split
  · exact edgesFrom_sorted _ _ _
  · exact List.nodup_nil
end Go.Proofs.YtillhaipemengaaGreatDoor.Sm
end

section
namespace Go.Proofs.YtillhaipemengaaGreatDoor
open Go Go.RowKit Go.Proofs Go.Proofs.YtillhaipemengaaGreatDoorW.PrintWords Go.Proofs.YtillhaipemengaaGreatDoor.K0 Go.Proofs.YtillhaipemengaaGreatDoor.RD Go.Proofs.YtillhaipemengaaGreatDoor.RS
set_option linter.unusedVariables false
set_option linter.unusedSimpArgs false
theorem edG_len (l : List Md) (i : Int) : (edgesG l i).length ≤ l.length := by
  unfold edgesG
  split
  · split
    · split
      · exact nodup_le (Sm.edgesOf_nodup l _) (fun z hz => edgesOf_nn l _ z hz)
      · exact Nat.zero_le _
    · exact Nat.zero_le _
  · exact Nat.zero_le _
theorem edG_in {l : List Md} (hg : gcheck l = 0) {i : Nat} (hi : i < l.length) : edgesG l (i : Int) = edgesOf l i := by
  unfold edgesG
  rw [if_pos hg, if_pos (by omega), if_pos (by omega), Int.toNat_natCast]
/-- What the law asks of the releases `rs`, whose places are `out`. -/
structure ClF (l : List Md) (ch : List Int) (ws : List Wt) (rs : List Rl) (out : List Int) : Prop where
  len : out.length = rs.length
  at_ : ∀ (k : Nat) (r : Rl), rs[k]? = some r → out[k]? = some r.f0
  want : ∀ (i : Nat) (m : Md), l[i]? = some m → out.contains (i : Int) = ((ch.contains (i : Int) || ws.any (fun w => w.f0.toList == m.f1.toList)) || (edgesG l (i : Int)).any (fun d => out.contains d))
  each : ∀ (k : Nat) (r : Rl), rs[k]? = some r → 0 ≤ r.f0 ∧ (∃ m, l[r.f0.toNat]? = some m ∧ vfits m.f1 r.f3 = true) ∧ (out.take k).contains r.f0 = false ∧ (∀ d ∈ edgesG l r.f0, out.contains d = true → (out.take k).contains d = true) ∧ (r.f1 = true → vcmp r.f2 r.f3 = -1)
theorem clF {l : List Md} {tg : List Tg} {ch : List Int} {ws : List Wt} {rs : List Rl} (h : RelIs l tg ch ws rs) : ClF l ch ws rs (rs.map (·.f0)) := by
  have hg := (ord_ok h.ord).1
  refine ⟨by simp, fun k r hk => by rw [List.getElem?_map, hk]; rfl, fun i m hm => ?_, fun k r hk => ?_⟩
  · have hi := (List.getElem?_eq_some_iff.1 hm).1
    rw [edG_in hg hi, Bool.eq_iff_iff]
    have := h.who hm
    simp only [List.contains_eq_mem, Bool.or_eq_true, List.any_eq_true, decide_eq_true_eq, tl_eq] at this ⊢
    rw [this, or_assoc]
  · obtain ⟨h0, m, hm, hf, hc⟩ := h.each (List.mem_of_getElem? hk)
    obtain ⟨g1, g2⟩ := h.behind hk
    have hi := (List.getElem?_eq_some_iff.1 hm).1
    refine ⟨h0, ⟨m, hm, hf⟩, ?_, fun d hd ho => ?_, hc⟩
    · rw [List.contains_eq_mem]; exact decide_eq_false g1
    · have hz : r.f0 = (r.f0.toNat : Int) := by omega
      rw [hz, edG_in hg hi] at hd
      rw [List.contains_eq_mem] at ho ⊢
      exact decide_eq_true (g2 d hd (of_decide_eq_true ho))
theorem in18 {W : World} {A : Option Addr} {c : Nat} {l : List Int} (hr : Kd.C (Kd.int .i64) W A l.length l) (hc : l.length ≤ c) (z : Int) : Calls Tryz.prog 23 #[.slice A l.length c, .int .i64 z] W fun e w' => e = .returned (.bool (l.contains z)) ∧ Below W.heap.size W w' := by
  obtain ⟨K, hK⟩ := Sm.In_ev l z hr.2.1
  exact (armadaref16_In.calls K A c l z _ W hr hc (hK K (Nat.le_refl _))).mono fun e w' h => ⟨h.1, h.2.below⟩
theorem ed18 {W : World} {A : Option Addr} {c : Nat} {l : List Md} (hr : Kd.C k63 W A l.length l) (hc : l.length ≤ c) (hs : Sm.Short l) (z : Int) : Calls Tryz.prog 24 #[.slice A l.length c, .int .i64 z] W fun e w' => ∃ (B : Option Addr) (d : Nat), e = .returned (.slice B (edgesG l z).length d) ∧ (edgesG l z).length ≤ d ∧ Kd.C (Kd.int .i64) w' B (edgesG l z).length (edgesG l z) ∧ Below W.heap.size W w' := by
  obtain ⟨K, hK⟩ := Sm.Edges_ev l hs z
  refine (armadaref16_Edges.calls K A c l z _ W hr hc (hK K (Nat.le_refl _))).mono ?_
  rintro e w' ⟨v, rfl, hR, hb⟩
  obtain ⟨B, d, rfl, h1, h2⟩ := Kd.R_reads hR
  exact ⟨B, d, rfl, h1, h2, hb⟩
theorem fit18 (W : World) (p : ByteArray) (v : Vr) : Calls Tryz.prog 25 #[.string p, .agg (vrc v)] W fun e w' => e = .returned (.bool (vfits p v)) ∧ Below W.heap.size W w' := by
  obtain ⟨K, hK⟩ := ref_Fits_f p v.f0 v.f1 v.f2 v.f3 v.f4
  exact armadaref08_Fits.calls K p v.f0 v.f1 v.f2 v.f3 v.f4 _ W (hK K (Nat.le_refl _))
theorem cmp18 (W : World) (u v : Vr) : Calls Tryz.prog 26 #[.agg (vrc u), .agg (vrc v)] W fun e w' => e = .returned (.int .i64 (vcmp u v)) ∧ Below W.heap.size W w' := by
  obtain ⟨K, hK⟩ := ref_Compare_f u.f0 u.f1 u.f2 u.f3 u.f4 v.f0 v.f1 v.f2 v.f3 v.f4
  exact armadaref07_Compare.calls K u.f0 u.f1 u.f2 u.f3 u.f4 v.f0 v.f1 v.f2 v.f3 v.f4 _ W (hK K (Nat.le_refl _))
theorem any_snoc {α : Type} (P : α → Bool) {l : List α} {k : Nat} {x : α} (h : l[k]? = some x) : (l.take (k + 1)).any P = ((l.take k).any P || P x) := by
  rw [List.take_add_one, h, List.any_append]
  simp
end Go.Proofs.YtillhaipemengaaGreatDoor
end
