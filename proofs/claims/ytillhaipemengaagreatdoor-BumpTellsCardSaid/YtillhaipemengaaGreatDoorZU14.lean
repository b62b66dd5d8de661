/- The texts Gcheck, Reach2, Reach3, Those, Cyc, Cont in one file, without what these claims do not use (put together by prune2.py). -/
import Derived.Test.YtillhaipemengaaGreatDoorZU12
import Derived.Test.YtillhaipemengaaGreatDoorZU13
import Derived.Test.YtillhaipemengaaGreatDoorZU11
import Derived.Shelf.Slices.In.SortNone
import Derived.Sort.OwnSorted
import Derived.Sort.Grow
import Derived.Lib.OwnBridge
import Derived.Sort.EveryDepth
section
namespace Go.Proofs.YtillhaipemengaaGreatDoor
open Go Go.RowKit Go.Sort Go.Proofs Go.Proofs.YtillhaipemengaaGreatDoorW.PrintWords Go.Proofs.YtillhaipemengaaGreatDoor.K0 Go.Proofs.YtillhaipemengaaGreatDoor.R1 Go.Proofs.YtillhaipemengaaGreatDoor.R2
set_option linter.unusedVariables false
set_option linter.unusedSimpArgs false
def pathsOf (xs : List S63) : List Str := xs.map fun x => x.f1.data.toList
def gcheck (xs : List S63) : Int := if 12 < xs.length then 1 else if (xs.all fun x => checkOk x.f1) = true then (if (pathsOf xs).Nodup then 0 else 11) else 6
theorem mcheck_calls (s : ByteArray) (w : World) (hG : GW w) : Calls Tryz.prog 55 #[.string s] w fun e w' => e = .returned (.bool (checkOk s)) ∧ Below w.heap.size w w' :=
  mpath_Check.calls 101 s _ w hG (mpath_Check_f s 101 (by decide))
theorem sort_none (p : Option Addr) (cap : Nat) (w : World) : Calls Tryz.prog 108 #[.slice p 0 cap] w fun e w' => e = .returned (.tuple #[]) ∧ w' = w := Any.slices_Sort_string_none Tryz.lays190 p cap w
/-- Sorted, and its runs made one: how many are left. -/
theorem sort_row (l : List ByteArray) (g cap : Nat) (base : Nat) (w : World) (hb : base ≤ g) (hg : g < w.heap.size) (hl : l.length ≤ 12) (hH : Holds encStr w g 0 (l.map fun x => x.data.toList).toArray) :
    Calls Tryz.prog 108 #[.slice (some ⟨g, 0, none⟩) l.length cap] w fun e w' => e = .returned (.tuple #[]) ∧ Holds encStr w' g 0 (srt (l.map fun x => x.data.toList)).toArray ∧ Below base w w' := by
  have hsort := Tryz.slices_Sort_string g 0 cap (l.map fun x => x.data.toList) w hH hg (by rw [List.length_map]; omega)
  rw [List.length_map] at hsort
  refine hsort.mono ?_
  rintro e w' ⟨rfl, nn, os, rfl⟩
  refine ⟨rfl, ?_, (Below.refl base w).grown (grownBy_sorted _) (by omega) (fun j hj => by cases hj; exact hb)⟩
  exact holds_grow encStr _ os g 0 _ (by simpa [putRow, mapBlock, Sort.ahead] using hg) (holds_putRow encStr _ g 0 _ _ (holds_ahead encStr w nn g 0 _ hH) (by simp))
theorem compact_row (zs : List Str) (g cap : Nat) (base : Nat) (w : World) (hb : base ≤ g) (hl : zs.length ≤ 12) (hc : zs.length ≤ cap) (hH : Holds encStr w g 0 zs.toArray) :
    Calls Tryz.prog 109 #[.slice (some ⟨g, 0, none⟩) zs.length cap] w fun e w' => e = .returned (.slice (some ⟨g, 0, none⟩) (Lib.compact zs).length cap) ∧ Below base w w' := by
  refine (Tryz.slices_Compact_string g 0 cap zs w hH (by omega) hc).mono ?_
  rintro e w' ⟨rfl, q, rfl⟩
  exact ⟨rfl, Lib.below_putRow (Below.refl base w) hb⟩
theorem all_take {xs : List S63} {p : S63 → Bool} {k : Nat} {m : S63} (h : xs[k]? = some m) : (xs.take (k + 1)).all p = ((xs.take k).all p && p m) := by
  rw [List.take_add_one, h, List.all_append]
  simp
theorem gcheck_big {xs : List S63} (h : 12 < xs.length) : gcheck xs = 1 := by unfold gcheck; rw [if_pos h]
theorem gcheck_bad {xs : List S63} (h : ¬ 12 < xs.length) {m : S63} (hm : m ∈ xs) (hc : checkOk m.f1 = false) : gcheck xs = 6 := by
  unfold gcheck
  rw [if_neg h, if_neg]
  intro e
  rw [List.all_eq_true.1 e m hm] at hc; cases hc
theorem gcheck_end {xs : List S63} (h : ¬ 12 < xs.length) (hc : (xs.all fun x => checkOk x.f1) = true) : gcheck xs = if (Lib.compact (srt ((xs.map fun x => x.f1).map fun x => x.data.toList))).length < xs.length then 11 else 0 := by
  unfold gcheck
  have e : (xs.map fun x => x.f1).map (fun x => x.data.toList) = pathsOf xs := by unfold pathsOf; rw [List.map_map]; rfl
  have hc2 := compact_lt (pathsOf xs)
  have hl : (pathsOf xs).length = xs.length := by simp [pathsOf]
  rw [if_neg h, if_pos hc, e]
  rw [hl] at hc2
  by_cases hn : (pathsOf xs).Nodup
  · rw [decide_eq_true hn] at hc2
    rw [if_pos hn, if_neg (by simpa using hc2)]
  · rw [decide_eq_false hn] at hc2
    rw [if_neg hn, if_pos (by simpa using hc2)]
set_option maxRecDepth 100000 in
set_option maxHeartbeats 4000000 in
theorem gcheck_calls (A : Option Addr) (c : Nat) (xs : List S63) (w : World) (hG : GW w) (hr : Kd.C k63 w A xs.length xs) :
    Calls Tryz.prog 71 #[.slice A xs.length c] w fun e w' => e = .returned (.int .i64 (gcheck xs)) ∧ Below w.heap.size w w' := by
  have hbig := hr.2.1
  obtain ⟨n, hn⟩ : ∃ n, n = xs.length := ⟨_, rfl⟩
  by_cases h12 : 12 < n
  · rw [gcheck_big (hn ▸ h12), ← hn]
    rw [← hn] at hbig
    have h12z : (12 : Int) < (n : Int) := by omega
    clear hr hn
    go_enter Tryz.func71, Tryz.ntmps71
    go_wp2
    go_ret
    exact ⟨rfl, Below.refl _ _⟩
  · have h12z : ¬ (12 : Int) < (n : Int) := by omega
    obtain ⟨z, hz⟩ : ∃ z, z = gcheck xs := ⟨_, rfl⟩
    rw [← hz, ← hn]
    rw [← hn] at hr
    have HN := Aside0.mk hn
    have HZ := Aside0.mk hz
    have HR := Aside0.mk hr
    have HG := Aside0.mk hG
    clear hr hn hz hG hbig
    go_enter Tryz.func71, Tryz.ntmps71
    go_wp2
    go_loopg [3, 11] n (fun gg v3 v11 wr => ∃ kk : Nat, kk ≤ n ∧ n - kk ≤ gg ∧ v11 = .int .i64 kk ∧ Aside0 (Kd.R Kd.string 9 wr w.heap.size (fun _ => True) v3 ((xs.take kk).map fun x => x.f1)) ∧ Aside0 (((xs.take kk).all fun x => checkOk x.f1) = true) ∧ Aside0 (Below w.heap.size w wr))
    case atStart => exact ⟨0, Nat.zero_le _, by omega, rfl, ⟨Kd.R_nil _ _ _ _ _⟩, ⟨rfl⟩, ⟨Below.refl _ _⟩⟩
    case round =>
      obtain ⟨kk, hkk, hg, rfl, HO, HA, HB⟩ := hrel
      by_cases hlt : kk < n
      · have hltz : (kk : Int) < (n : Int) := by omega
        have HR1 := Kd.C_below HR.out HB.out
        obtain ⟨m, hm⟩ : ∃ m, xs[kk]? = some m := ⟨_, List.getElem?_eq_getElem (by have := HN.out; omega)⟩
        have hme : rd_T63 xs (kk : Int) = m := by
          unfold rd_T63
          rw [Int.toNat_natCast, List.getD_eq_getElem?_getD, hm]; rfl
        obtain ⟨ad, A2, c2, hA, h0, h1, h2, hc2, hC2⟩ := at_T63 HR1 (kk : Int) (by omega) (by omega)
        subst hA
        rw [hme] at h0 h1 h2
        rw [Int.toNat_natCast] at h0 h1 h2
        have hmp : (xs.take (kk + 1)).map (fun x => x.f1) = (xs.take kk).map (fun x => x.f1) ++ [m.f1] := by rw [List.take_add_one, hm]; simp
        have hall := all_take (p := fun x => checkOk x.f1) hm
        have hchk := mcheck_calls m.f1 (wr.alloc (.cells #[.string m.f0, .string m.f1, .slice A2 m.f2.length c2] 63)) (GW.below HG.out (below_alloc HB.out _))
        have hpath : ∀ w', Below (wr.alloc (.cells #[.string m.f0, .string m.f1, .slice A2 m.f2.length c2] 63)).heap.size (wr.alloc (.cells #[.string m.f0, .string m.f1, .slice A2 m.f2.length c2] 63)) w' → w'.cell? ⟨wr.heap.size, 1, none⟩ = some (.string m.f1) := fun w' hb => below_cell hb (by unfold World.cell?; rw [heap_alloc_new]; rfl)
        have HM := Aside0.mk hm
        have HMP := Aside0.mk hmp
        have HPA := Aside0.mk hpath
        have hlen : ((xs.take kk).map fun x => x.f1).length ≤ 12 := by rw [List.length_map, List.length_take]; omega
        have HLE := Aside0.mk hlen
        clear HR1 hme hm hC2 hmp hpath hlen
        cases hq : checkOk m.f1 with
        | true =>
          rw [hq] at hchk hall
          rw [HA.out] at hall
          have HAL := Aside0.mk hall
          clear hq hall HA
          generalize ((xs.take kk).map fun x => x.f1) = acc at HO HMP HLE
          go_wp2_with (first | (go_at_call 55; refine hchk.mono ?_; rintro e w2 ⟨rfl, hb2⟩; have cP := HPA.out w2 hb2; have HB2 := Aside0.mk (below_step (below_alloc HB.out _) hb2); have HO2 := Aside0.mk (Kd.R_below (Kd.R_alloc HO.out _) hb2); clear hb2) | ((with_reducible refine gate_builtin (b := .append) (xs := #[.tmp 19, .tmp 22]) rfl ?_); at_builtin; refine Kd.R_append Kd.string (w0 := w) w.heap.size rfl (.tmp 19) (.tmp 22) 103 9 (.string ⟨#[]⟩) 16 rfl Tryz.underlying103 info9 rfl (by decide) (by decide) u3 acc m.f1 [.string m.f1] (fun _ => True) (fun _ => False) rfl rfl ?aP (fun _ hk => hk.elim) ?aF ?aO ?aB ?aS ?aL ?_; (case aP => exact rfl); (case aB => exact HB2.out); (case aF => exact (fun _ _ => trivial)); (case aO => exact HO2.out); (case aS => exact below_size HB2.out); (case aL => have := HLE.out; omega); intro v103 w9 ho hb hg hat; have HO3 := Aside0.mk ho; have HB3 := Aside0.mk hb; clear ho hb hg hat))
          go_roundg (n - (kk + 1))
          case measure => omega
          case rel => exact ⟨kk + 1, by omega, by omega, by go_num, ⟨by rw [HMP.out]; exact HO3.out⟩, ⟨by rw [HAL.out]; rfl⟩, HB3⟩
        | false =>
          rw [hq] at hchk
          have hz := HZ.out
          rw [gcheck_bad (by have := HN.out; omega) (List.mem_of_getElem? HM.out) hq] at hz
          subst hz
          clear hq hall
          go_wp2_with (go_at_call 55; refine hchk.mono ?_; rintro e w2 ⟨rfl, hb2⟩; have HB2 := Aside0.mk (below_step (below_alloc HB.out _) hb2); clear hb2)
          go_ret
          exact ⟨rfl, HB2.out⟩
      · have hltz : ¬ (kk : Int) < (n : Int) := by omega
        have : kk = n := by omega
        subst this
        have htake : xs.take kk = xs := List.take_of_length_le (by have := HN.out; omega)
        rw [htake] at HO HA
        have hz := HZ.out
        rw [gcheck_end (by have := HN.out; omega) HA.out, ← HN.out] at hz
        have hl : (xs.map fun x => x.f1).length = kk := by rw [List.length_map]; exact HN.out.symm
        obtain ⟨l, hle⟩ : ∃ l, xs.map (fun x => x.f1) = l := ⟨_, rfl⟩
        have hO := HO.out
        rw [hle] at hl hO hz
        clear hle htake HO
        rcases Nat.eq_zero_or_pos kk with h0 | hp
        · subst h0
          obtain rfl : l = [] := List.length_eq_zero_iff.1 hl
          obtain ⟨A3, c3, rfl⟩ := Kd.R_slice hO
          rw [if_neg (by omega)] at hz
          subst hz
          clear hO hl
          have hs := fun w' => sort_none A3 c3 w'
          have hc := fun w' => Tryz.slices_Compact_string_empty A3 c3 w'
          have HS := Aside0.mk hs
          have HCM := Aside0.mk hc
          clear hs hc
          go_wp2_with (first | (go_at_call 108; refine (HS.out _).mono ?_; rintro e w2 ⟨rfl, rfl⟩) | (go_at_call 109; refine (HCM.out _).mono ?_; rintro e w3 ⟨rfl, rfl⟩))
          go_ret
          exact ⟨rfl, HB.out⟩
        · obtain ⟨g0, cap0, hv0, _⟩ := Kd.R_form hO (by omega)
          have hown := Kd.own_of_R hO
          rw [show encs Value.string l = (l.map fun x => x.data.toList).map encStr from (Lib.map_encStr l).symm] at hown
          obtain ⟨g, cap, rfl, hbg, hgs, hnc, hcm, _, hH⟩ := Lib.holds_of_ownsRow hown (by rw [hv0]; simp)
          have hs := sort_row l g cap w.heap.size wr hbg hgs (by omega) hH
          have hsl : (srt (l.map fun x => x.data.toList)).length = kk := by unfold srt; rw [List.length_mergeSort, List.length_map]; exact hl
          have hcp := fun w' (hH2 : Holds encStr w' g 0 (srt (l.map fun x => x.data.toList)).toArray) => compact_row (srt (l.map fun x => x.data.toList)) g cap w.heap.size w' hbg (by omega) (by omega) hH2
          rw [hsl] at hcp
          rw [hl] at hs
          rw [hl] at *
          generalize srt (l.map fun x => x.data.toList) = zs at hs hcp hz hsl
          have hq : (Lib.compact zs).length ≤ kk := hsl ▸ Lib.compact_length_le zs
          generalize (Lib.compact zs).length = q at hcp hz hq
          have HS := Aside0.mk hs
          have HCM := Aside0.mk hcp
          clear hs hcp hO hown hH hv0
          by_cases hqk : q < kk
          · have hqz : (q : Int) < (kk : Int) := by omega
            rw [if_pos hqk] at hz
            subst hz
            go_wp2_with (first | (go_at_call 108; refine (HS.out).mono ?_; rintro e w2 ⟨rfl, hH2, hb2⟩; have HH2 := Aside0.mk hH2; have HB2 := Aside0.mk hb2; clear hH2 hb2) | (go_at_call 109; refine (HCM.out _ HH2.out).mono ?_; rintro e w3 ⟨rfl, hb3⟩; have HB3 := Aside0.mk hb3; clear hb3))
            go_ret
            exact ⟨rfl, (HB.out.trans HB2.out).trans HB3.out⟩
          · have hqz : ¬ (q : Int) < (kk : Int) := by omega
            rw [if_neg hqk] at hz
            subst hz
            go_wp2_with (first | (go_at_call 108; refine (HS.out).mono ?_; rintro e w2 ⟨rfl, hH2, hb2⟩; have HH2 := Aside0.mk hH2; have HB2 := Aside0.mk hb2; clear hH2 hb2) | (go_at_call 109; refine (HCM.out _ HH2.out).mono ?_; rintro e w3 ⟨rfl, hb3⟩; have HB3 := Aside0.mk hb3; clear hb3))
            go_ret
            exact ⟨rfl, (HB.out.trans HB2.out).trans HB3.out⟩
end Go.Proofs.YtillhaipemengaaGreatDoor
end

section
namespace Go.Proofs.YtillhaipemengaaGreatDoor
open Go
set_option linter.unusedVariables false
set_option linter.unusedSimpArgs false
theorem len_le_of_sub : ∀ (o l : List Int), o.Nodup → (∀ z ∈ o, z ∈ l) → o.length ≤ l.length
  | [], _, _, _ => Nat.zero_le _
  | z :: o, l, hn, hs => by
    have hz := hs z (by simp)
    have := len_le_of_sub o (l.erase z) (List.nodup_cons.1 hn).2 (fun y hy => by
      have hne : y ≠ z := fun e => (List.nodup_cons.1 hn).1 (e ▸ hy)
      exact (List.mem_erase_of_ne hne).2 (hs y (by simp [hy])))
    rw [List.length_erase_of_mem hz] at this
    have := List.length_pos_of_mem hz
    simp only [List.length_cons]; omega
def ints (n : Nat) : List Int := (List.range n).map fun (k : Nat) => (k : Int)
theorem mem_ints {n : Nat} {z : Int} : z ∈ ints n ↔ 0 ≤ z ∧ z.toNat < n := by
  unfold ints
  simp only [List.mem_map, List.mem_range]
  constructor
  · rintro ⟨k, hk, rfl⟩; omega
  · intro ⟨h0, h1⟩; exact ⟨z.toNat, h1, by omega⟩
theorem ints_nodup (n : Nat) : (ints n).Nodup := by
  unfold ints
  exact List.Pairwise.map (R := (· ≠ ·)) (fun (k : Nat) => (k : Int)) (fun a b (h : a ≠ b) => by omega) List.nodup_range
theorem ints_len (n : Nat) : (ints n).length = n := by simp [ints]
theorem nodup_le {n : Nat} {o : List Int} (hn : o.Nodup) (hs : ∀ z ∈ o, 0 ≤ z ∧ z.toNat < n) : o.length ≤ n := by
  have := len_le_of_sub o (ints n) hn (fun z hz => mem_ints.2 (hs z hz))
  rwa [ints_len] at this
theorem nodup_full {n : Nat} {o : List Int} (hn : o.Nodup) (hs : ∀ z ∈ o, 0 ≤ z ∧ z.toNat < n) (hl : n ≤ o.length) (i : Nat) (hi : i < n) : (i : Int) ∈ o := by
  refine Classical.byContradiction fun h => ?_
  have := nodup_le (o := (i : Int) :: o) (n := n) (List.nodup_cons.2 ⟨h, hn⟩) (fun z hz => by
    rcases List.mem_cons.1 hz with rfl | hz
    · omega
    · exact hs z hz)
  simp at this; omega
section
variable (E : Nat → List Int)
/-- What edges are like: places below n. -/
structure Edgy (n : Nat) : Prop where
  nn : ∀ i z, z ∈ E i → 0 ≤ z ∧ z.toNat < n
variable {E}
theorem Edgy.lt {n : Nat} (h : Edgy E n) : ∀ i z, z ∈ E i → z.toNat < n := fun i z hz => (h.nn i z hz).2
theorem Edgy.reach {n : Nat} (h : Edgy E n) {i x : Nat} (r : Reach E i x) : x < n := by
  obtain ⟨c, z, hz, rfl, _⟩ := r.last
  exact h.lt _ _ hz
variable (E)
inductive OrdOk (n : Nat) : List Int → Prop
  | nil : OrdOk n []
  | snoc {o : List Int} {z : Int} : OrdOk n o → 0 ≤ z → z.toNat < n → z ∉ o → (∀ y ∈ E z.toNat, y ∈ o) → OrdOk n (o ++ [z])
variable {E}
theorem OrdOk.nodup {n : Nat} {o : List Int} (h : OrdOk E n o) : o.Nodup := by
  induction h with
  | nil => exact List.nodup_nil
  | snoc _ _ _ hz _ ih =>
    rw [List.nodup_append]
    exact ⟨ih, by simp, fun a ha b hb => by obtain rfl := List.mem_singleton.1 hb; exact fun e => hz (e ▸ ha)⟩
theorem OrdOk.sub {n : Nat} {o : List Int} (h : OrdOk E n o) : ∀ z ∈ o, 0 ≤ z ∧ z.toNat < n := by
  induction h with
  | nil => intro z hz; cases hz
  | snoc _ h0 h1 _ _ ih =>
    intro y hy
    rcases List.mem_append.1 hy with hy | hy
    · exact ih y hy
    · obtain rfl := List.mem_singleton.1 hy; exact ⟨h0, h1⟩
theorem OrdOk.down {n : Nat} {o : List Int} (hE : Edgy E n) (h : OrdOk E n o) : ∀ z ∈ o, (∀ x, Reach E z.toNat x → (x : Int) ∈ o) ∧ ¬ Reach E z.toNat z.toNat := by
  induction h with
  | nil => intro z hz; cases hz
  | @snoc o z _ h0 h1 hz hy ih =>
    have key : ∀ x, Reach E z.toNat x → (x : Int) ∈ o := by
      intro x hx
      cases hx with
      | one hw => have := hE.nn _ _ hw; rw [show ((_ : Nat) : Int) = _ from Int.toNat_of_nonneg this.1]; exact hy _ hw
      | step hw hx => exact (ih _ (hy _ hw)).1 x hx
    intro y hyo
    rcases List.mem_append.1 hyo with hyo | hyo
    · exact ⟨fun x hx => List.mem_append_left _ ((ih y hyo).1 x hx), (ih y hyo).2⟩
    · obtain rfl := List.mem_singleton.1 hyo
      refine ⟨fun x hx => List.mem_append_left _ (key x hx), fun hr => hz ?_⟩
      have := key _ hr
      rwa [Int.toNat_of_nonneg h0] at this
variable (E)
/-- Who is next: the first one who is not there yet, while all whom he requires are. -/
def canNext (o : List Int) (i : Nat) : Bool := !o.contains (i : Int) && (E i).all fun z => o.contains z
def nextOf (n : Nat) (o : List Int) : Int := idxFrom (canNext E o) 0 (List.range n)
def orderGo (n : Nat) : Nat → List Int → List Int × Int
  | 0, _ => ([], 12)
  | f + 1, o => if o.length < n then (if nextOf E n o < 0 then ([], 12) else orderGo n f (o ++ [nextOf E n o])) else (o, 0)
def orderOf (n : Nat) : List Int × Int := orderGo E n (n + 1) []
variable {E}
theorem idxFrom_cases {α : Type} (p : α → Bool) : ∀ (l : List α) (n : Nat), (∃ k x, l[k]? = some x ∧ p x = true ∧ idxFrom p n l = ((n + k : Nat) : Int) ∧ ∀ j y, j < k → l[j]? = some y → p y = false) ∨ (idxFrom p n l = -1 ∧ ∀ x ∈ l, p x = false)
  | [], n => .inr ⟨rfl, fun _ h => by cases h⟩
  | x :: l, n => by
    cases h : p x with
    | true => exact .inl ⟨0, x, rfl, h, by simp [idxFrom, h], fun j y hj => absurd hj (Nat.not_lt_zero _)⟩
    | false =>
      rcases idxFrom_cases p l (n + 1) with ⟨k, y, h1, h2, h3, h4⟩ | ⟨h1, h2⟩
      · refine .inl ⟨k + 1, y, by simpa using h1, h2, ?_, ?_⟩
        · simp only [idxFrom, h, Bool.false_eq_true, if_false, h3]
          omega
        · intro j y hj hy
          cases j with
          | zero => obtain rfl : x = y := by simpa using hy
                    exact h
          | succ j => exact h4 j y (by omega) (by simpa using hy)
      · refine .inr ⟨by simp [idxFrom, h, h1], fun y hy => ?_⟩
        rcases List.mem_cons.1 hy with rfl | hy
        · exact h
        · exact h2 y hy
theorem nextOf_cases (n : Nat) (o : List Int) : (∃ k, k < n ∧ nextOf E n o = (k : Int) ∧ canNext E o k = true) ∨ (nextOf E n o = -1 ∧ ∀ k, k < n → canNext E o k = false) := by
  rcases idxFrom_cases (canNext E o) (List.range n) 0 with ⟨k, x, h1, h2, h3, _⟩ | ⟨h1, h2⟩
  · have hk : k < n := by have := (List.getElem?_eq_some_iff.1 h1).1; simpa using this
    obtain rfl : k = x := by rw [List.getElem?_range hk] at h1; exact Option.some.inj h1
    exact .inl ⟨k, hk, by rw [nextOf, h3]; simp, h2⟩
  · exact .inr ⟨h1, fun k hk => h2 k (List.mem_range.2 hk)⟩
theorem canNext_iff {o : List Int} {i : Nat} : canNext E o i = true ↔ (i : Int) ∉ o ∧ ∀ z ∈ E i, z ∈ o := by
  simp [canNext]
/-- An order goes on, or stands, or somebody depends on himself. -/
theorem orderGo_cases {n : Nat} (hE : Edgy E n) : ∀ (f : Nat) (o : List Int), OrdOk E n o → n < f + o.length →
    (∃ o', orderGo E n f o = (o', 0) ∧ OrdOk E n o' ∧ o'.length = n ∧ ∀ i, i < n → ¬ Reach E i i) ∨ (orderGo E n f o = ([], 12) ∧ ∃ i, i < n ∧ Reach E i i)
  | 0, o, ho, hf => by have := nodup_le ho.nodup ho.sub; omega
  | f + 1, o, ho, hf => by
    unfold orderGo
    by_cases hl : o.length < n
    · rw [if_pos hl]
      rcases nextOf_cases (E := E) n o with ⟨k, hk, hz, hc⟩ | ⟨hz, hc⟩
      · rw [hz, if_neg (by omega)]
        obtain ⟨c1, c2⟩ := canNext_iff.1 hc
        exact orderGo_cases hE f (o ++ [(k : Int)]) (.snoc ho (by omega) (by simpa using hk) c1 (by simpa using c2)) (by simp; omega)
      · rw [hz, if_pos (by omega)]
        refine .inr ⟨rfl, Classical.byContradiction fun hno => ?_⟩
        obtain ⟨u, hu⟩ : ∃ u, u < n ∧ (u : Int) ∉ o := Classical.byContradiction fun h => by
          have := len_le_of_sub (ints n) o (ints_nodup n) (fun z hz => Classical.byContradiction fun hzo => h ⟨z.toNat, (mem_ints.1 hz).2, by rwa [Int.toNat_of_nonneg (mem_ints.1 hz).1]⟩)
          rw [ints_len] at this; omega
        obtain ⟨v, ⟨hv, hvo⟩, hvE⟩ := sink (E := E) (n := n) hE.lt (fun u => u < n ∧ (u : Int) ∉ o) (fun u hu hr => hno ⟨u, hu.1, hr⟩) u hu
        have : canNext E o v = true := canNext_iff.2 ⟨hvo, fun z hz => Classical.byContradiction fun hzo => hvE z hz ⟨hE.lt v z hz, by rwa [Int.toNat_of_nonneg (hE.nn v z hz).1]⟩⟩
        rw [hc v hv] at this; cases this
    · rw [if_neg hl]
      have hle := nodup_le ho.nodup ho.sub
      refine .inl ⟨o, rfl, ho, by omega, fun i hi hr => ?_⟩
      have := nodup_full ho.nodup ho.sub (by omega) i hi
      exact (ho.down hE _ this).2 (by simpa using hr)
theorem orderOf_cases {n : Nat} (hE : Edgy E n) : (∃ o', orderOf E n = (o', 0) ∧ OrdOk E n o' ∧ o'.length = n ∧ ∀ i, i < n → ¬ Reach E i i) ∨ (orderOf E n = ([], 12) ∧ ∃ i, i < n ∧ Reach E i i) :=
  orderGo_cases hE (n + 1) [] .nil (by simp)
variable (E)
variable {E}
end
end Go.Proofs.YtillhaipemengaaGreatDoor
end

section
namespace Go.Proofs.YtillhaipemengaaGreatDoor
open Go
set_option linter.unusedVariables false
set_option linter.unusedSimpArgs false
section
variable (E : Nat → List Int)
def isUp (n : Nat) (fr : List Int) (i : Nat) : Bool := fr.contains (i : Int) || fr.any fun z => decide (0 ≤ z) && (decide (z < n) && (belowOf E i).getD z.toNat false)
def placesOf (n : Nat) (p : Nat → Bool) : List Int := ((List.range n).filter p).map fun (i : Nat) => (i : Int)
def upOf (n : Nat) (fr : List Int) : List Int := placesOf n (isUp E n fr)
variable {E}
theorem mem_places {n : Nat} {p : Nat → Bool} {z : Int} : z ∈ placesOf n p ↔ 0 ≤ z ∧ z.toNat < n ∧ p z.toNat = true := by
  unfold placesOf
  simp only [List.mem_map, List.mem_filter, List.mem_range]
  constructor
  · rintro ⟨k, ⟨h1, h2⟩, rfl⟩; exact ⟨by omega, by simpa using h1, by simpa using h2⟩
  · intro ⟨h0, h1, h2⟩; exact ⟨z.toNat, ⟨h1, h2⟩, by omega⟩
theorem places_len (n : Nat) (p : Nat → Bool) : (placesOf n p).length ≤ n := by
  unfold placesOf
  rw [List.length_map]
  exact Nat.le_trans (List.length_filter_le _ _) (by simp)
theorem isUp_iff {n : Nat} (hE : Edgy E n) (h12 : n ≤ 12) {fr : List Int} {i : Nat} : isUp E n fr i = true ↔ (i : Int) ∈ fr ∨ ∃ z ∈ fr, 0 ≤ z ∧ Reach E i z.toNat := by
  have hb := below_iff (E := E) (fun i z hz => Nat.lt_of_lt_of_le (hE.lt i z hz) h12)
  unfold isUp
  simp only [Bool.or_eq_true, List.contains_iff_mem, List.any_eq_true, Bool.and_eq_true, decide_eq_true_eq, hb]
  constructor
  · rintro (h | ⟨z, h1, h2, _, h3⟩)
    · exact .inl h
    · exact .inr ⟨z, h1, h2, h3⟩
  · rintro (h | ⟨z, h1, h2, h3⟩)
    · exact .inl h
    · exact .inr ⟨z, h1, h2, by have := hE.reach h3; omega, h3⟩
theorem mem_upOf {n : Nat} (hE : Edgy E n) (h12 : n ≤ 12) {fr : List Int} {z : Int} : z ∈ upOf E n fr ↔ 0 ≤ z ∧ z.toNat < n ∧ (z ∈ fr ∨ ∃ y ∈ fr, 0 ≤ y ∧ Reach E z.toNat y.toNat) := by
  unfold upOf
  rw [mem_places]
  constructor
  · rintro ⟨h0, h1, h2⟩
    refine ⟨h0, h1, ?_⟩
    have := (isUp_iff hE h12).1 h2
    rwa [Int.toNat_of_nonneg h0] at this
  · rintro ⟨h0, h1, h2⟩
    refine ⟨h0, h1, (isUp_iff hE h12).2 ?_⟩
    rwa [Int.toNat_of_nonneg h0]
/-- Who requires one who is up is up; and who is up was asked for, or requires one who is up. -/
theorem up_step {n : Nat} (hE : Edgy E n) (h12 : n ≤ 12) {fr : List Int} {i : Nat} (hi : i < n) : (i : Int) ∈ upOf E n fr ↔ (i : Int) ∈ fr ∨ ∃ d ∈ E i, d ∈ upOf E n fr := by
  rw [mem_upOf hE h12]
  constructor
  · rintro ⟨_, _, h | ⟨y, hy, h0, hr⟩⟩
    · exact .inl h
    · have hyn := hE.reach hr
      rw [Int.toNat_natCast] at hr
      generalize hyt : y.toNat = t at hr
      cases hr with
      | @one _ z hz =>
        refine .inr ⟨z, hz, (mem_upOf hE h12).2 ⟨(hE.nn _ _ hz).1, (hE.nn _ _ hz).2, .inl ?_⟩⟩
        rwa [show z = y by have := (hE.nn _ _ hz).1; omega]
      | @step _ _ z hz hr =>
        exact .inr ⟨z, hz, (mem_upOf hE h12).2 ⟨(hE.nn _ _ hz).1, (hE.nn _ _ hz).2, .inr ⟨y, hy, h0, hyt ▸ hr⟩⟩⟩
  · rintro (h | ⟨d, hd, hu⟩)
    · exact ⟨by omega, by simpa using hi, .inl h⟩
    · refine ⟨by omega, by simpa using hi, .inr ?_⟩
      rw [Int.toNat_natCast]
      obtain ⟨h0, h1, h | ⟨y, hy, hy0, hr⟩⟩ := (mem_upOf hE h12).1 hu
      · exact ⟨d, h, h0, .one hd⟩
      · exact ⟨y, hy, hy0, .step hd hr⟩
theorem Reach.mono {E E' : Nat → List Int} (h : ∀ i z, z ∈ E i → z ∈ E' i) {a b : Nat} (r : Reach E a b) : Reach E' a b := by
  induction r with
  | one hz => exact .one (h _ _ hz)
  | step hz _ ih => exact .step (h _ _ hz) ih
end
end Go.Proofs.YtillhaipemengaaGreatDoor
end

section
namespace Go.Proofs.YtillhaipemengaaGreatDoor
open Go Go.RowKit Go.Sort Go.Proofs Go.Proofs.YtillhaipemengaaGreatDoorW.PrintWords Go.Proofs.YtillhaipemengaaGreatDoor.K0
set_option linter.unusedVariables false
set_option linter.unusedSimpArgs false
theorem places_succ (n : Nat) (p : Nat → Bool) : placesOf (n + 1) p = placesOf n p ++ (if p n = true then [(n : Int)] else []) := by
  unfold placesOf
  rw [List.range_succ, List.filter_append, List.map_append]
  congr 1
  cases h : p n <;> simp [h]
set_option maxRecDepth 100000 in
set_option maxHeartbeats 4000000 in
theorem those_calls (A : Option Addr) (c n : Nat) (z : Int) (p : Nat → Bool) (g : Nat) (lb : Array Value) (eg : ∀ args w, (callFunc g args).run Tryz.prog w = .ok (.enter g args) w) (w : World) (hl : n ≤ 4294967290)
    (hchk : Calls Tryz.prog 71 #[.slice A n c] w fun e w' => e = .returned (.int .i64 z) ∧ Below w.heap.size w w')
    (hp : ∀ (i : Nat), i < n → ∀ (W : World), Below w.heap.size w W → z = 0 → Calls Tryz.prog g (#[.int .i64 i] ++ lb) W fun e w' => e = .returned (.bool (p i)) ∧ Below W.heap.size W w') :
    Calls Tryz.prog 84 #[.slice A n c, .func (.func g) #[] lb] w fun e w' => ∃ v0_ : Value, e = .returned v0_ ∧ Kd.R (Kd.int .i64) 3 w' w.heap.size (fun _ => True) v0_ (if z = 0 then placesOf n p else []) ∧ Below w.heap.size w w' := by
  by_cases hz : z = 0
  · rw [if_pos hz]
    subst hz
    have HP := Aside0.mk hp
    clear hp
    go_enter Tryz.func84, Tryz.ntmps84
    go_wp2_with (go_at_call 71; refine hchk.mono ?_; rintro e w1 ⟨rfl, hb1⟩; have HB1 := Aside0.mk hb1; clear hb1)
    go_loopg [5, 12] n (fun gg v5 v12 wr => ∃ kk : Nat, kk ≤ n ∧ n - kk ≤ gg ∧ v12 = .int .i64 kk ∧ Aside0 (Kd.R (Kd.int .i64) 3 wr w.heap.size (fun _ => True) v5 (placesOf kk p)) ∧ Aside0 (Below w.heap.size w wr))
    case atStart => exact ⟨0, Nat.zero_le _, by omega, rfl, Aside0.mk (Kd.R_nil _ _ _ _ _), HB1⟩
    case round =>
      obtain ⟨kk, hkk, hg, rfl, HO, HB⟩ := hrel
      by_cases hlt : kk < n
      · have hltz : (kk : Int) < (n : Int) := by omega
        have hC := HP.out kk hlt wr HB.out (by first | rfl | trivial)
        have hps := places_succ kk p
        have hpl := places_len kk p
        cases hq : p kk with
        | true =>
          rw [hq] at hC hps
          rw [if_pos rfl] at hps
          have HPS := Aside0.mk hps
          have HLE := Aside0.mk hpl
          clear hps hq hpl
          generalize placesOf kk p = acc at HO HPS HLE
          go_wp2_with (first | (go_at_fn g; refine hC.mono ?_; rintro e w' ⟨rfl, hb'⟩; have HB2 := Aside0.mk (below_step HB.out hb'); have HO2 := Aside0.mk (Kd.R_below HO.out hb'); clear hb') | ((with_reducible refine gate_builtin (b := .append) (xs := #[.tmp 18, .tmp 20]) rfl ?_); at_builtin; refine Kd.R_append (Kd.int .i64) (w0 := w) w.heap.size rfl (.tmp 18) (.tmp 20) 39 3 (.int .i64 0) 8 rfl Tryz.underlying39 info3 rfl (by decide) (by decide) u5 acc (kk : Int) [.int .i64 kk] (fun _ => True) (fun _ => False) rfl rfl ?aP (fun _ hk => hk.elim) ?aF ?aO ?aB ?aS ?aL ?_; (case aP => exact rfl); (case aB => exact HB2.out); (case aF => exact (fun _ _ => trivial)); (case aO => exact HO2.out); (case aS => exact below_size HB2.out); (case aL => have := HLE.out; omega); intro v103 w9 ho hb hg hat; have HO3 := Aside0.mk ho; have HB3 := Aside0.mk hb; clear ho hb hg hat HB2 HO2))
          go_roundg (n - (kk + 1))
          case measure => omega
          case rel => exact ⟨kk + 1, by omega, by omega, by go_num, ⟨by rw [HPS.out]; exact HO3.out⟩, HB3⟩
        | false =>
          rw [hq] at hC hps
          rw [if_neg (by simp), List.append_nil] at hps
          have HPS := Aside0.mk hps
          clear hps hq hpl
          go_wp2_with (go_at_fn g; refine hC.mono ?_; rintro e w' ⟨rfl, hb'⟩)
          go_roundg (n - (kk + 1))
          case measure => omega
          case rel => exact ⟨kk + 1, by omega, by omega, by go_num, ⟨by rw [HPS.out]; exact Kd.R_below HO.out hb'⟩, ⟨below_step HB.out hb'⟩⟩
      · have hltz : ¬ (kk : Int) < (n : Int) := by omega
        have : kk = n := by omega
        subst this
        go_wp2
        go_ret
        exact ⟨_, rfl, HO.out, HB.out⟩
  · rw [if_neg hz]
    have hzb : (z != 0) = true := by simp [hz]
    clear hp
    go_enter Tryz.func84, Tryz.ntmps84
    go_wp2_with (go_at_call 71; refine hchk.mono ?_; rintro e w1 ⟨rfl, hb1⟩; have HB1 := Aside0.mk hb1; clear hb1)
    go_ret
    exact ⟨_, rfl, Kd.R_nil _ _ _ _ _, HB1.out⟩
end Go.Proofs.YtillhaipemengaaGreatDoor
end

section
namespace Go.Proofs.YtillhaipemengaaGreatDoor
open Go Go.RowKit Go.Sort Go.Proofs Go.Proofs.YtillhaipemengaaGreatDoorW.PrintWords Go.Proofs.YtillhaipemengaaGreatDoor.K0
set_option linter.unusedVariables false
set_option linter.unusedSimpArgs false
theorem slice_cell (w : World) (A : Option Addr) (n c : Nat) (t : TypeId) : (w.alloc (.cells #[.slice A n c] t)).cell? ⟨w.heap.size, 0, none⟩ = some (.slice A n c) := by
  unfold World.cell?; rw [heap_alloc_new]; rfl
end Go.Proofs.YtillhaipemengaaGreatDoor
end

section
namespace Go.Proofs.YtillhaipemengaaGreatDoor
open Go Go.RowKit Go.Sort Go.Proofs Go.Proofs.YtillhaipemengaaGreatDoorW.PrintWords Go.Proofs.YtillhaipemengaaGreatDoor.K0
set_option linter.unusedVariables false
set_option linter.unusedSimpArgs false
set_option maxHeartbeats 2000000 in
theorem Index_Int (A : Option Addr) (c : Nat) (xs : List Int) (z : Int) (w : World) (hr : Kd.C (Kd.int .i64) w A xs.length xs) :
    Calls Tryz.prog 114 #[.slice A xs.length c, .int .i64 z] w fun e w' => e = .returned (.int .i64 (idxFrom (fun y => decide (z = y)) 0 xs)) ∧ Below w.heap.size w w' := by
  obtain ⟨n, hn⟩ : ∃ n, n = xs.length := ⟨_, rfl⟩
  rw [← hn] at hr ⊢
  have hbig := hr.2.1
  have HN := Aside0.mk hn
  clear hn
  have HR := Aside0.mk hr
  clear hr
  go_enter Tryz.func114, Tryz.ntmps114
  go_wp2
  go_loopg [5, 8] n (fun gg _ s8 wr => ∃ kk : Nat, kk ≤ n ∧ n - kk ≤ gg ∧ s8 = .int .i64 kk ∧ Aside0 (Below w.heap.size w wr) ∧ Aside0 (∀ (j : Nat) (y : Int), j < kk → xs[j]? = some y → (decide (z = y)) = false))
  case atStart => exact ⟨0, Nat.zero_le _, by omega, rfl, Aside0.mk (Below.refl _ w), Aside0.mk (fun j y hj => absurd hj (Nat.not_lt_zero _))⟩
  case round =>
    obtain ⟨kk, hkk, hg, rfl, BW, AS⟩ := hrel
    by_cases hlt : kk < n
    · have hltz : (kk : Int) < (n : Int) := by omega
      have HB := Kd.C_below HR.out BW.out
      obtain ⟨x, hx⟩ : ∃ x, xs[kk]? = some x := ⟨_, List.getElem?_eq_getElem (by have := HN.out; omega)⟩
      obtain ⟨ad, cs, hA, _, hK, hcell⟩ := Kd.C_get HB (0 : Int) (kk : Int) (by omega) (by omega)
      have hxe : xs.getD (kk : Int).toNat 0 = x := by
        rw [Int.toNat_natCast, List.getD_eq_getElem?_getD, hx]; rfl
      rw [hxe] at hK
      obtain rfl : cs = [.int .i64 x] := hK
      have h0 : wr.cell? (ad.add kk) = some (.int .i64 x) := by
        have := hcell 0 _ rfl
        rw [Int.toNat_natCast, show (Kd.int .i64).sz = 1 from rfl] at this
        simpa using this
      subst hA
      clear HB hxe hcell
      have HX := Aside0.mk hx
      clear hx
      by_cases hq : z = x
      · subst hq
        go_wp2
        go_ret
        refine ⟨?_, by repeat (first | exact BW.out | apply pw_below_drewN | apply below_drew1)⟩
        rw [idxFrom_at (fun y => decide (z = y)) xs 0 kk z HX.out (by simp) AS.out, Nat.zero_add]
        rfl
      · go_wp2
        go_roundg (n - (kk + 1))
        case measure => omega
        case rel =>
          refine ⟨kk + 1, by omega, by omega, by go_num, Aside0.mk (by repeat (first | exact BW.out | apply pw_below_drewN | apply below_drew1)), Aside0.mk (fun j y hj hy => ?_)⟩
          by_cases e : j = kk
          · subst e
            obtain rfl := Option.some.inj (HX.out.symm.trans hy)
            exact decide_eq_false hq
          · exact AS.out j y (by omega) hy
    · have hltz : ¬ (kk : Int) < (n : Int) := by omega
      have : kk = n := by omega
      subst this
      go_wp2
      go_ret
      refine ⟨?_, by repeat (first | exact BW.out | apply pw_below_drewN | apply below_drew1)⟩
      rw [idxFrom_none (fun y => decide (z = y)) xs 0 (fun j y hy => AS.out j y (by have := (List.getElem?_eq_some_iff.1 hy).1; have := HN.out; omega) hy)]
      rfl
theorem Contains_Int (A : Option Addr) (c : Nat) (xs : List Int) (z : Int) (w : World) (hr : Kd.C (Kd.int .i64) w A xs.length xs) :
    Calls Tryz.prog 82 #[.slice A xs.length c, .int .i64 z] w fun e w' => e = .returned (.bool (xs.contains z)) ∧ Below w.heap.size w w' := by
  have hcon := Index_Int A c xs z w hr
  have hge : decide (idxFrom (fun y => decide (z = y)) 0 xs ≥ 0) = xs.contains z := by
    rw [idxFrom_nonneg]
    rw [Bool.eq_iff_iff]
    simp
  generalize idxFrom (fun y => decide (z = y)) 0 xs = q at hcon hge
  rw [← hge]
  clear hge hr
  generalize xs.length = n at hcon ⊢
  go_enter Tryz.func82, Tryz.ntmps82
  go_wp2_with (go_at_call 114; refine hcon.mono ?_; rintro e w' ⟨rfl, hb'⟩)
  go_ret
  exact ⟨rfl, by repeat (first | exact hb' | apply pw_below_drewN | apply below_drew1)⟩
end Go.Proofs.YtillhaipemengaaGreatDoor
end
