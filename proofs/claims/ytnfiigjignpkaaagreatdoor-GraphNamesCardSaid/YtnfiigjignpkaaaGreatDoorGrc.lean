/- A sorted list of texts, its runs made one, is shorter just if some text stands twice. -/
import Derived.Test.YtnfiigjignpkaaaGreatDoorGw
import Derived.Lib.SlicesCompact
import Derived.Test.YtnfiigjignpkaaaGreatDoorGrb
import Derived.Test.YtnfiigjignpkaaaGreatDoorMpa
import Derived.Shelf.Slices.In.SortNone
import Derived.Sort.OwnSorted
import Derived.Sort.Grow
import Derived.Lib.OwnBridge
import Derived.Sort.EveryDepth
namespace Go.Proofs.YtnfiigjignpkaaaGreatDoor
open Go
set_option linter.unusedVariables false
set_option linter.unusedSimpArgs false

theorem filter_len_all {α : Type} (p : α → Bool) : ∀ (l : List α), l.length ≤ (l.filter p).length → ∀ x ∈ l, p x = true
  | [], _, x, h => by cases h
  | y :: l, h, x, hx => by
    cases hy : p y with
    | false =>
      rw [List.filter_cons_of_neg (by rw [hy]; simp)] at h
      have := List.length_filter_le p l
      simp at h; omega
    | true =>
      rw [List.filter_cons_of_pos hy] at h
      rcases List.mem_cons.1 hx with rfl | hx
      · exact hy
      · exact filter_len_all p l (by simpa using h) x hx
abbrev Str := List UInt8
def srt (zs : List Str) : List Str := zs.mergeSort fun x y => decide (x ≤ y)
theorem srt_sorted (zs : List Str) : (srt zs).Pairwise (· ≤ ·) := by
  have := List.pairwise_mergeSort (le := fun (x y : Str) => decide (x ≤ y)) (fun a b c h1 h2 => by simp only [decide_eq_true_eq] at *; exact List.le_trans h1 h2) (fun a b => by simp only [Bool.or_eq_true, decide_eq_true_eq]; exact List.le_total a b) zs
  exact this.imp (fun h => by simpa using h)
theorem compact_sorted (l : List Str) (hs : l.Pairwise (· ≤ ·)) : decide ((Lib.compact l).length < l.length) = !decide l.Nodup := by
  by_cases h : l.Nodup
  · rw [decide_eq_true h, Lib.compact_all l ?_]
    · simp
    · intro j hj
      unfold Lib.keeps
      rw [decide_eq_true_eq]
      by_cases h0 : j = 0
      · exact .inl h0
      · refine .inr fun e => ?_
        have e' : l[j]'hj = l[j - 1]'(by omega) := by simpa [getElem!_pos, hj, show j - 1 < l.length by omega] using e
        exact List.pairwise_iff_getElem.1 h (j - 1) j (by omega) hj (by omega) e'.symm
  · rw [decide_eq_false h]
    simp only [Bool.not_false, decide_eq_true_eq]
    refine Classical.byContradiction fun hlt => h ?_
    have hall := filter_len_all (Lib.keeps l.toArray) (List.range l.length) (by
      have : (Lib.compact l).length = ((List.range l.length).filter (Lib.keeps l.toArray)).length := by simp [Lib.compact, Lib.compactUpTo]
      rw [List.length_range]; omega)
    have hne : ∀ j, (hj : j + 1 < l.length) → l[j + 1] ≠ l[j] := by
      intro j hj e
      have := hall (j + 1) (List.mem_range.2 hj)
      unfold Lib.keeps at this
      rw [decide_eq_true_eq] at this
      rcases this with h | h
      · omega
      · exact h (by simpa [getElem!_pos, hj, show j < l.length by omega] using e)
    have hle : ∀ (i j : Nat) (hij : i ≤ j) (hj : j < l.length), l[i]'(by omega) ≤ l[j] := by
      intro i j hij hj
      rcases Nat.lt_or_ge i j with h | h
      · exact List.pairwise_iff_getElem.1 hs i j (by omega) hj h
      · have : i = j := by omega
        subst this; exact List.le_refl _
    refine List.pairwise_iff_getElem.2 fun i j hi hj hij e => ?_
    have h1 := hle i (i + 1) (by omega) (by omega)
    have h2 := hle (i + 1) j (by omega) hj
    rw [← e] at h2
    exact hne i (by omega) (List.le_antisymm h2 h1)
/-- A sorted list of texts, its runs made one, is as long as before just if no text stands twice. -/
theorem compact_lt (zs : List Str) : decide ((Lib.compact (srt zs)).length < zs.length) = !decide zs.Nodup := by
  have hp : (srt zs).Perm zs := List.mergeSort_perm zs _
  have hnd : decide (srt zs).Nodup = decide zs.Nodup := decide_eq_decide.2 hp.nodup_iff
  have h := compact_sorted (srt zs) (srt_sorted zs)
  rw [hnd, hp.length_eq] at h
  exact h
end Go.Proofs.YtnfiigjignpkaaaGreatDoor

/- graph.Check: whether modules may be. -/
namespace Go.Proofs.YtnfiigjignpkaaaGreatDoor
open Go Go.RowKit Go.Sort Go.Proofs Go.Proofs.YtnfiigjignpkaaaGreatDoorW.PrintWords Go.Proofs.YtnfiigjignpkaaaGreatDoor.K0 Go.Proofs.YtnfiigjignpkaaaGreatDoor.R1 Go.Proofs.YtnfiigjignpkaaaGreatDoor.R2
set_option linter.unusedVariables false
set_option linter.unusedSimpArgs false

def pathsOf (xs : List S40) : List Str := xs.map fun x => x.f1.data.toList
def gcheck (xs : List S40) : Int := if 12 < xs.length then 1 else if (xs.all fun x => checkOk x.f1) = true then (if (pathsOf xs).Nodup then 0 else 11) else 6
theorem mcheck_calls (s : ByteArray) (w : World) (hG : GW w) : Calls Tryz.prog 29 #[.string s] w fun e w' => e = .returned (.bool (checkOk s)) ∧ Below w.heap.size w w' :=
  mpath_Check.calls 101 s _ w hG (mpath_Check_f s 101 (by decide))
theorem sort_none (p : Option Addr) (cap : Nat) (w : World) : Calls Tryz.prog 30 #[.slice p 0 cap] w fun e w' => e = .returned (.tuple #[]) ∧ w' = w := Any.slices_Sort_string_none Tryz.lays190 p cap w

/-- Sorted, and its runs made one: how many are left. -/
theorem sort_row (l : List ByteArray) (g cap : Nat) (base : Nat) (w : World) (hb : base ≤ g) (hg : g < w.heap.size) (hl : l.length ≤ 12) (hH : Holds encStr w g 0 (l.map fun x => x.data.toList).toArray) :
    Calls Tryz.prog 30 #[.slice (some ⟨g, 0, none⟩) l.length cap] w fun e w' => e = .returned (.tuple #[]) ∧ Holds encStr w' g 0 (srt (l.map fun x => x.data.toList)).toArray ∧ Below base w w' := by
  have hsort := Tryz.slices_Sort_string g 0 cap (l.map fun x => x.data.toList) w hH hg (by rw [List.length_map]; omega)
  rw [List.length_map] at hsort
  refine hsort.mono ?_
  rintro e w' ⟨rfl, nn, os, rfl⟩
  refine ⟨rfl, ?_, (Below.refl base w).grown (grownBy_sorted _) (by omega) (fun j hj => by cases hj; exact hb)⟩
  exact holds_grow encStr _ os g 0 _ (by simpa [putRow, mapBlock, Sort.ahead] using hg) (holds_putRow encStr _ g 0 _ _ (holds_ahead encStr w nn g 0 _ hH) (by simp))
theorem compact_row (zs : List Str) (g cap : Nat) (base : Nat) (w : World) (hb : base ≤ g) (hl : zs.length ≤ 12) (hc : zs.length ≤ cap) (hH : Holds encStr w g 0 zs.toArray) :
    Calls Tryz.prog 31 #[.slice (some ⟨g, 0, none⟩) zs.length cap] w fun e w' => e = .returned (.slice (some ⟨g, 0, none⟩) (Lib.compact zs).length cap) ∧ Below base w w' := by
  refine (Tryz.slices_Compact_string g 0 cap zs w hH (by omega) hc).mono ?_
  rintro e w' ⟨rfl, q, rfl⟩
  exact ⟨rfl, Lib.below_putRow (Below.refl base w) hb⟩

theorem all_take {xs : List S40} {p : S40 → Bool} {k : Nat} {m : S40} (h : xs[k]? = some m) : (xs.take (k + 1)).all p = ((xs.take k).all p && p m) := by
  rw [List.take_add_one, h, List.all_append]
  simp
theorem gcheck_big {xs : List S40} (h : 12 < xs.length) : gcheck xs = 1 := by unfold gcheck; rw [if_pos h]
theorem gcheck_bad {xs : List S40} (h : ¬ 12 < xs.length) {m : S40} (hm : m ∈ xs) (hc : checkOk m.f1 = false) : gcheck xs = 6 := by
  unfold gcheck
  rw [if_neg h, if_neg]
  intro e
  rw [List.all_eq_true.1 e m hm] at hc; cases hc
theorem gcheck_end {xs : List S40} (h : ¬ 12 < xs.length) (hc : (xs.all fun x => checkOk x.f1) = true) : gcheck xs = if (Lib.compact (srt ((xs.map fun x => x.f1).map fun x => x.data.toList))).length < xs.length then 11 else 0 := by
  unfold gcheck
  have e : (xs.map fun x => x.f1).map (fun x => x.data.toList) = pathsOf xs := by unfold pathsOf; rw [List.map_map]; rfl
  have hc2 := compact_lt (pathsOf xs)
  have hl : (pathsOf xs).length = xs.length := by simp [pathsOf]
  rw [if_neg h, if_pos hc, e]
  rw [hl] at hc2
  by_cases hn : (pathsOf xs).Nodup
  · rw [decide_eq_true hn] at hc2
    rw [if_pos hn, if_neg (by simpa using hc2)]
  · rw [decide_eq_false hn] at hc2
    rw [if_neg hn, if_pos (by simpa using hc2)]

set_option maxRecDepth 100000 in
set_option maxHeartbeats 4000000 in
theorem gcheck_calls (A : Option Addr) (c : Nat) (xs : List S40) (w : World) (hG : GW w) (hr : Kd.C k40 w A xs.length xs) :
    Calls Tryz.prog 12 #[.slice A xs.length c] w fun e w' => e = .returned (.int .i64 (gcheck xs)) ∧ Below w.heap.size w w' := by
  have hbig := hr.2.1
  obtain ⟨n, hn⟩ : ∃ n, n = xs.length := ⟨_, rfl⟩
  by_cases h12 : 12 < n
  · rw [gcheck_big (hn ▸ h12), ← hn]
    rw [← hn] at hbig
    have h12z : (12 : Int) < (n : Int) := by omega
    clear hr hn
    go_enter Tryz.func12, Tryz.ntmps12
    go_wp2
    go_ret
    exact ⟨rfl, Below.refl _ _⟩
  · have h12z : ¬ (12 : Int) < (n : Int) := by omega
    obtain ⟨z, hz⟩ : ∃ z, z = gcheck xs := ⟨_, rfl⟩
    rw [← hz, ← hn]
    rw [← hn] at hr
    have HN := Aside0.mk hn
    have HZ := Aside0.mk hz
    have HR := Aside0.mk hr
    have HG := Aside0.mk hG
    clear hr hn hz hG hbig
    go_enter Tryz.func12, Tryz.ntmps12
    go_wp2
    go_loopg [3, 11] n (fun gg v3 v11 wr => ∃ kk : Nat, kk ≤ n ∧ n - kk ≤ gg ∧ v11 = .int .i64 kk ∧ Aside0 (Kd.R Kd.string 9 wr w.heap.size (fun _ => True) v3 ((xs.take kk).map fun x => x.f1)) ∧ Aside0 (((xs.take kk).all fun x => checkOk x.f1) = true) ∧ Aside0 (Below w.heap.size w wr))
    case atStart => exact ⟨0, Nat.zero_le _, by omega, rfl, ⟨Kd.R_nil _ _ _ _ _⟩, ⟨rfl⟩, ⟨Below.refl _ _⟩⟩
    case round =>
      obtain ⟨kk, hkk, hg, rfl, HO, HA, HB⟩ := hrel
      by_cases hlt : kk < n
      · have hltz : (kk : Int) < (n : Int) := by omega
        have HR1 := Kd.C_below HR.out HB.out
        obtain ⟨m, hm⟩ : ∃ m, xs[kk]? = some m := ⟨_, List.getElem?_eq_getElem (by have := HN.out; omega)⟩
        have hme : rd_T40 xs (kk : Int) = m := by
          unfold rd_T40
          rw [Int.toNat_natCast, List.getD_eq_getElem?_getD, hm]; rfl
        obtain ⟨ad, A2, c2, hA, h0, h1, h2, hc2, hC2⟩ := at_T40 HR1 (kk : Int) (by omega) (by omega)
        subst hA
        rw [hme] at h0 h1 h2
        rw [Int.toNat_natCast] at h0 h1 h2
        have hmp : (xs.take (kk + 1)).map (fun x => x.f1) = (xs.take kk).map (fun x => x.f1) ++ [m.f1] := by rw [List.take_add_one, hm]; simp
        have hall := all_take (p := fun x => checkOk x.f1) hm
        have hchk := mcheck_calls m.f1 (wr.alloc (.cells #[.string m.f0, .string m.f1, .slice A2 m.f2.length c2] 40)) (GW.below HG.out (below_alloc HB.out _))
        have hpath : ∀ w', Below (wr.alloc (.cells #[.string m.f0, .string m.f1, .slice A2 m.f2.length c2] 40)).heap.size (wr.alloc (.cells #[.string m.f0, .string m.f1, .slice A2 m.f2.length c2] 40)) w' → w'.cell? ⟨wr.heap.size, 1, none⟩ = some (.string m.f1) := fun w' hb => below_cell hb (by unfold World.cell?; rw [heap_alloc_new]; rfl)
        have HM := Aside0.mk hm
        have HMP := Aside0.mk hmp
        have HPA := Aside0.mk hpath
        have hlen : ((xs.take kk).map fun x => x.f1).length ≤ 12 := by rw [List.length_map, List.length_take]; omega
        have HLE := Aside0.mk hlen
        clear HR1 hme hm hC2 hmp hpath hlen
        cases hq : checkOk m.f1 with
        | true =>
          rw [hq] at hchk hall
          rw [HA.out] at hall
          have HAL := Aside0.mk hall
          clear hq hall HA
          generalize ((xs.take kk).map fun x => x.f1) = acc at HO HMP HLE
          go_wp2_with (first | (go_at_call 29; refine hchk.mono ?_; rintro e w2 ⟨rfl, hb2⟩; have cP := HPA.out w2 hb2; have HB2 := Aside0.mk (below_step (below_alloc HB.out _) hb2); have HO2 := Aside0.mk (Kd.R_below (Kd.R_alloc HO.out _) hb2); clear hb2) | ((with_reducible refine gate_builtin (b := .append) (xs := #[.tmp 19, .tmp 22]) rfl ?_); at_builtin; refine Kd.R_append Kd.string (w0 := w) w.heap.size rfl (.tmp 19) (.tmp 22) 53 9 (.string ⟨#[]⟩) 16 rfl Tryz.underlying53 info9 rfl (by decide) (by decide) u3 acc m.f1 [.string m.f1] (fun _ => True) (fun _ => False) rfl rfl ?aP (fun _ hk => hk.elim) ?aF ?aO ?aB ?aS ?aL ?_; (case aP => exact rfl); (case aB => exact HB2.out); (case aF => exact (fun _ _ => trivial)); (case aO => exact HO2.out); (case aS => exact below_size HB2.out); (case aL => have := HLE.out; omega); intro v103 w9 ho hb hg hat; have HO3 := Aside0.mk ho; have HB3 := Aside0.mk hb; clear ho hb hg hat))
          go_roundg (n - (kk + 1))
          case measure => omega
          case rel => exact ⟨kk + 1, by omega, by omega, by go_num, ⟨by rw [HMP.out]; exact HO3.out⟩, ⟨by rw [HAL.out]; rfl⟩, HB3⟩
        | false =>
          rw [hq] at hchk
          have hz := HZ.out
          rw [gcheck_bad (by have := HN.out; omega) (List.mem_of_getElem? HM.out) hq] at hz
          subst hz
          clear hq hall
          go_wp2_with (go_at_call 29; refine hchk.mono ?_; rintro e w2 ⟨rfl, hb2⟩; have HB2 := Aside0.mk (below_step (below_alloc HB.out _) hb2); clear hb2)
          go_ret
          exact ⟨rfl, HB2.out⟩
      · have hltz : ¬ (kk : Int) < (n : Int) := by omega
        have : kk = n := by omega
        subst this
        have htake : xs.take kk = xs := List.take_of_length_le (by have := HN.out; omega)
        rw [htake] at HO HA
        have hz := HZ.out
        rw [gcheck_end (by have := HN.out; omega) HA.out, ← HN.out] at hz
        have hl : (xs.map fun x => x.f1).length = kk := by rw [List.length_map]; exact HN.out.symm
        obtain ⟨l, hle⟩ : ∃ l, xs.map (fun x => x.f1) = l := ⟨_, rfl⟩
        have hO := HO.out
        rw [hle] at hl hO hz
        clear hle htake HO
        rcases Nat.eq_zero_or_pos kk with h0 | hp
        · subst h0
          obtain rfl : l = [] := List.length_eq_zero_iff.1 hl
          obtain ⟨A3, c3, rfl⟩ := Kd.R_slice hO
          rw [if_neg (by omega)] at hz
          subst hz
          clear hO hl
          have hs := fun w' => sort_none A3 c3 w'
          have hc := fun w' => Tryz.slices_Compact_string_empty A3 c3 w'
          have HS := Aside0.mk hs
          have HCM := Aside0.mk hc
          clear hs hc
          go_wp2_with (first | (go_at_call 30; refine (HS.out _).mono ?_; rintro e w2 ⟨rfl, rfl⟩) | (go_at_call 31; refine (HCM.out _).mono ?_; rintro e w3 ⟨rfl, rfl⟩))
          go_ret
          exact ⟨rfl, HB.out⟩
        · obtain ⟨g0, cap0, hv0, _⟩ := Kd.R_form hO (by omega)
          have hown := Kd.own_of_R hO
          rw [show encs Value.string l = (l.map fun x => x.data.toList).map encStr from (Lib.map_encStr l).symm] at hown
          obtain ⟨g, cap, rfl, hbg, hgs, hnc, hcm, _, hH⟩ := Lib.holds_of_ownsRow hown (by rw [hv0]; simp)
          have hs := sort_row l g cap w.heap.size wr hbg hgs (by omega) hH
          have hsl : (srt (l.map fun x => x.data.toList)).length = kk := by unfold srt; rw [List.length_mergeSort, List.length_map]; exact hl
          have hcp := fun w' (hH2 : Holds encStr w' g 0 (srt (l.map fun x => x.data.toList)).toArray) => compact_row (srt (l.map fun x => x.data.toList)) g cap w.heap.size w' hbg (by omega) (by omega) hH2
          rw [hsl] at hcp
          rw [hl] at hs
          rw [hl] at *
          generalize srt (l.map fun x => x.data.toList) = zs at hs hcp hz hsl
          have hq : (Lib.compact zs).length ≤ kk := hsl ▸ Lib.compact_length_le zs
          generalize (Lib.compact zs).length = q at hcp hz hq
          have HS := Aside0.mk hs
          have HCM := Aside0.mk hcp
          clear hs hcp hO hown hH hv0
          by_cases hqk : q < kk
          · have hqz : (q : Int) < (kk : Int) := by omega
            rw [if_pos hqk] at hz
            subst hz
            go_wp2_with (first | (go_at_call 30; refine (HS.out).mono ?_; rintro e w2 ⟨rfl, hH2, hb2⟩; have HH2 := Aside0.mk hH2; have HB2 := Aside0.mk hb2; clear hH2 hb2) | (go_at_call 31; refine (HCM.out _ HH2.out).mono ?_; rintro e w3 ⟨rfl, hb3⟩; have HB3 := Aside0.mk hb3; clear hb3))
            go_ret
            exact ⟨rfl, (HB.out.trans HB2.out).trans HB3.out⟩
          · have hqz : ¬ (q : Int) < (kk : Int) := by omega
            rw [if_neg hqk] at hz
            subst hz
            go_wp2_with (first | (go_at_call 30; refine (HS.out).mono ?_; rintro e w2 ⟨rfl, hH2, hb2⟩; have HH2 := Aside0.mk hH2; have HB2 := Aside0.mk hb2; clear hH2 hb2) | (go_at_call 31; refine (HCM.out _ HH2.out).mono ?_; rintro e w3 ⟨rfl, hb3⟩; have HB3 := Aside0.mk hb3; clear hb3))
            go_ret
            exact ⟨rfl, (HB.out.trans HB2.out).trans HB3.out⟩
end Go.Proofs.YtnfiigjignpkaaaGreatDoor

/- The contracts of layer 16, as the printed texts want them. -/
namespace Go.Proofs.YtnfiigjignpkaaaGreatDoor
open Go Go.RowKit Go.Sort Go.Proofs Go.Proofs.YtnfiigjignpkaaaGreatDoorW.PrintWords Go.Proofs.YtnfiigjignpkaaaGreatDoor.K0
set_option linter.unusedVariables false
set_option linter.unusedSimpArgs false

theorem gcheck_len {xs : List S40} (h : gcheck xs = 0) : xs.length ≤ 12 := by
  refine Classical.byContradiction fun hn => ?_
  rw [gcheck_big (by omega)] at h
  cases h
theorem gcheck_nodup {xs : List S40} (h : gcheck xs = 0) : (pathsOf xs).Nodup := by
  refine Classical.byContradiction fun hn => ?_
  unfold gcheck at h
  rw [if_neg hn] at h
  split at h
  · cases h
  · split at h <;> cases h
theorem gcheck_place {xs : List S40} (h : gcheck xs = 0) (j : Nat) (x : S40) (hx : xs[j]? = some x) : placeOf xs x.f1 = (j : Int) := by
  have hn := gcheck_nodup h
  obtain ⟨hj, ej⟩ := List.getElem?_eq_some_iff.1 hx
  unfold placeOf
  rw [idxFrom_at _ xs 0 j x hx (by simp) ?_, Nat.zero_add]
  intro i y hi hy
  obtain ⟨hil, ei⟩ := List.getElem?_eq_some_iff.1 hy
  have := List.pairwise_iff_getElem.1 hn i j (by simpa [pathsOf] using hil) (by simpa [pathsOf] using hj) hi
  simp only [pathsOf, List.getElem_map, ei, ej] at this
  rw [ByteArray.toList_eq, ByteArray.toList_eq]
  simpa using this

def graph_Check.f (l0 : List S40) : Option Int := some (gcheck l0)
theorem graph_Check.calls (A0 : Option Addr) (c0 : Nat) (l0 : List S40) (r : Int) (w : World) (hr0 : Kd.C k40 w A0 l0.length l0) (hc0 : l0.length ≤ c0) (hG : GW w) (h : graph_Check.f l0 = some r) :
    Calls Tryz.prog 12 #[.slice A0 l0.length c0] w fun e w' => e = .returned (.int .i64 r) ∧ Below w.heap.size w w' := by
  obtain rfl := Option.some.inj h
  exact gcheck_calls A0 c0 l0 w hG hr0
theorem chk_later (A0 : Option Addr) (c0 : Nat) (l0 : List S40) (w : World) (hr0 : Kd.C k40 w A0 l0.length l0) (hG : GW w) :
    ∀ W, Below w.heap.size w W → Calls Tryz.prog 12 #[.slice A0 l0.length c0] W fun e w' => e = .returned (.int .i64 (gcheck l0)) ∧ Below W.heap.size W w' :=
  fun W hb => gcheck_calls A0 c0 l0 W (hG.below hb) (Kd.C_below hr0 hb)

/-- A list of numbers, of modules that may be. -/
def cycG (l : List S40) : List Int := if gcheck l = 0 then cycOf (edgesOf l) l.length else []
def upG (l : List S40) (fr : List Int) : List Int := if gcheck l = 0 then upOf (edgesOf l) l.length fr else []
def ordG (l : List S40) : List Int × Int := if gcheck l = 0 then orderOf (edgesOf l) l.length else ([], gcheck l)
def edgesG (l : List S40) (i : Int) : List Int := if gcheck l = 0 then (if 0 ≤ i then (if i < (l.length : Int) then edgesOf l i.toNat else []) else []) else []

def graph_Cyclic.f (l0 : List S40) : Option (List Int) := if l0.length ≤ 4294967290 then some (cycG l0) else none
theorem graph_Cyclic.calls (A0 : Option Addr) (c0 : Nat) (l0 : List S40) (r : List Int) (w : World) (hr0 : Kd.C k40 w A0 l0.length l0) (hc0 : l0.length ≤ c0) (hG : GW w) (h : graph_Cyclic.f l0 = some r) :
    Calls Tryz.prog 17 #[.slice A0 l0.length c0] w fun e w' => ∃ v0_ : Value, e = .returned (v0_) ∧ Kd.R (Kd.int .i64) 3 w' w.heap.size (fun _ => True) v0_ r ∧ Below w.heap.size w w' := by
  unfold graph_Cyclic.f at h
  split at h
  · rename_i hl
    obtain rfl := Option.some.inj h
    exact Cyclic_calls A0 c0 l0 (gcheck l0) w hr0 hl gcheck_len (chk_later A0 c0 l0 w hr0 hG)
  · cases h
def graph_Up.f (l0 : List S40) (l1 : List Int) : Option (List Int) := if l0.length ≤ 4294967290 then some (upG l0 l1) else none
theorem graph_Up.calls (A0 : Option Addr) (c0 : Nat) (l0 : List S40) (A1 : Option Addr) (c1 : Nat) (l1 : List Int) (r : List Int) (w : World) (hr0 : Kd.C k40 w A0 l0.length l0) (hc0 : l0.length ≤ c0) (hr1 : Kd.C (Kd.int .i64) w A1 l1.length l1) (hc1 : l1.length ≤ c1) (hG : GW w) (h : graph_Up.f l0 l1 = some r) :
    Calls Tryz.prog 19 #[.slice A0 l0.length c0, .slice A1 l1.length c1] w fun e w' => ∃ v0_ : Value, e = .returned (v0_) ∧ Kd.R (Kd.int .i64) 3 w' w.heap.size (fun _ => True) v0_ r ∧ Below w.heap.size w w' := by
  unfold graph_Up.f at h
  split at h
  · rename_i hl
    obtain rfl := Option.some.inj h
    exact Up_calls A0 A1 c0 c1 l0 l1 (gcheck l0) w hr0 hr1 hl gcheck_len (chk_later A0 c0 l0 w hr0 hG)
  · cases h
def graph_Order.f (l0 : List S40) : Option (List Int × Int) := if l0.length ≤ 4294967290 then some (ordG l0) else none
theorem graph_Order.calls (A0 : Option Addr) (c0 : Nat) (l0 : List S40) (r1 : List Int) (r2 : Int) (w : World) (hr0 : Kd.C k40 w A0 l0.length l0) (hc0 : l0.length ≤ c0) (hG : GW w) (h : graph_Order.f l0 = some (r1, r2)) :
    Calls Tryz.prog 10 #[.slice A0 l0.length c0] w fun e w' => ∃ v0_ : Value, e = .returned (.tuple #[v0_, .int .i64 r2]) ∧ Kd.R (Kd.int .i64) 3 w' w.heap.size (fun _ => True) v0_ r1 ∧ Below w.heap.size w w' := by
  unfold graph_Order.f at h
  split at h
  · rename_i hl
    have e := Option.some.inj h
    have hc := Order_calls A0 c0 l0 (gcheck l0) w hr0 hl gcheck_len (fun h => gcheck_place h) (chk_later A0 c0 l0 w hr0 hG)
    unfold ordG at e
    rw [e] at hc
    exact hc
  · cases h
def graph_Edges.f (l0 : List S40) (a1 : Int) : Option (List Int) := if l0.length ≤ 4294967290 then some (edgesG l0 a1) else none
set_option maxHeartbeats 1000000 in
theorem graph_Edges.calls (A0 : Option Addr) (c0 : Nat) (l0 : List S40) (a1 : Int) (r : List Int) (w : World) (hr0 : Kd.C k40 w A0 l0.length l0) (hc0 : l0.length ≤ c0) (hG : GW w) (h : graph_Edges.f l0 a1 = some r) :
    Calls Tryz.prog 15 #[.slice A0 l0.length c0, .int .i64 a1] w fun e w' => ∃ v0_ : Value, e = .returned (v0_) ∧ Kd.R (Kd.int .i64) 3 w' w.heap.size (fun _ => True) v0_ r ∧ Below w.heap.size w w' := by
  unfold graph_Edges.f at h
  split at h
  · rename_i hl
    obtain rfl := Option.some.inj h
    have hc := gcheck_calls A0 c0 l0 w hG hr0
    unfold edgesG
    obtain ⟨z, hz⟩ : ∃ z, gcheck l0 = z := ⟨_, rfl⟩
    by_cases h0 : z = 0
    · rw [hz] at hc
      rw [hz, if_pos h0]
      subst h0
      by_cases hi0 : 0 ≤ a1
      · rw [if_pos hi0]
        by_cases hi1 : a1 < (l0.length : Int)
        · rw [if_pos hi1]
          obtain ⟨i, rfl⟩ : ∃ i : Nat, a1 = (i : Int) := ⟨a1.toNat, by omega⟩
          rw [Int.toNat_natCast]
          obtain ⟨x, hx⟩ : ∃ x, l0[i]? = some x := ⟨_, List.getElem?_eq_getElem (by omega)⟩
          have he := fun W hb => edges_calls A0 c0 l0 i x W (Kd.C_below (w1 := W) hr0 hb) hx hl
          rw [← edgesOf_at hx] at he
          generalize edgesOf l0 i = es at he ⊢
          generalize l0.length = n at *
          have HE := Aside0.mk he
          clear hr0 hx he hz hG
          go_enter Tryz.func15, Tryz.ntmps15
          go_wp2_with (first | (go_at_call 12; refine hc.mono ?_; rintro e w2 ⟨rfl, hb2⟩; have HB2 := Aside0.mk hb2; clear hb2) | (go_at_call 26; refine (HE.out _ HB2.out).mono ?_; rintro e w3 ⟨v0, rfl, hR, hb3⟩; have HR := Aside0.mk hR; have HB3 := Aside0.mk hb3; clear hR hb3))
          go_ret
          exact ⟨_, rfl, Kd.R_lower HR.out HB2.out.size, below_step HB2.out HB3.out⟩
        · rw [if_neg hi1]
          generalize l0.length = n at *
          clear hr0 hz hG
          go_enter Tryz.func15, Tryz.ntmps15
          go_wp2_with (go_at_call 12; refine hc.mono ?_; rintro e w2 ⟨rfl, hb2⟩; have HB2 := Aside0.mk hb2; clear hb2)
          go_ret
          exact ⟨_, rfl, Kd.R_nil _ _ _ _ _, HB2.out⟩
      · rw [if_neg hi0]
        generalize l0.length = n at *
        clear hr0 hz hG
        go_enter Tryz.func15, Tryz.ntmps15
        go_wp2_with (go_at_call 12; refine hc.mono ?_; rintro e w2 ⟨rfl, hb2⟩; have HB2 := Aside0.mk hb2; clear hb2)
        go_ret
        exact ⟨_, rfl, Kd.R_nil _ _ _ _ _, HB2.out⟩
    · rw [hz] at hc
      rw [hz, if_neg h0]
      have hzb : (z != 0) = true := by simp [h0]
      generalize l0.length = n at *
      clear hr0 hz hG
      go_enter Tryz.func15, Tryz.ntmps15
      go_wp2_with (go_at_call 12; refine hc.mono ?_; rintro e w2 ⟨rfl, hb2⟩; have HB2 := Aside0.mk hb2; clear hb2)
      go_ret
      exact ⟨_, rfl, Kd.R_nil _ _ _ _ _, HB2.out⟩
  · cases h
end Go.Proofs.YtnfiigjignpkaaaGreatDoor
