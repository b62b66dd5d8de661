/- The texts BpRel in one file, without what these claims do not use (put together by prune2.py). -/
import Derived.Test.YtillhaipemengaaGreatDoorZB22
section
namespace Go.Proofs.YtillhaipemengaaGreatDoor
open Go Go.RowKit Go.Proofs.YtillhaipemengaaGreatDoorW.PrintWords Go.Proofs.YtillhaipemengaaGreatDoor.K0 Go.Proofs.YtillhaipemengaaGreatDoor.R1
set_option linter.unusedVariables false
set_option linter.unusedSimpArgs false
theorem tl_eq (a b : ByteArray) : (a.toList == b.toList) = decide (a = b) := by
  rw [ByteArray.toList_eq, ByteArray.toList_eq, Bool.eq_iff_iff, beq_iff_eq, decide_eq_true_eq]
  exact ⟨fun h => by_data h, fun h => by rw [h]⟩
/-- Why a want may not be. -/
def wantBad (l : List Md) (ws : List Wt) (i : Nat) (w : Wt) : Int :=
  if placeOf l w.f0 < 0 then 5 else if lvlOk w.f1 = true then (if (ws.take i).any (fun x => decide (x.f0 = w.f0)) = true then 11 else 0) else 1
def wantGo (l : List Md) (ws : List Wt) : Nat → List Wt → List Int → List Int × Int
  | _, [], fr => (fr, 0)
  | i, w :: t, fr => if wantBad l ws i w = 0 then wantGo l ws (i + 1) t (fr ++ [placeOf l w.f0]) else ([], wantBad l ws i w)
def levOf (ws : List Wt) (p : ByteArray) : Int :=
  match ws.find? (fun w => decide (w.f0 = p)) with
  | some w => w.f1
  | none => 1
def relAt (l : List Md) (tg : List Tg) (ws : List Wt) (z : Int) : Rl × Int :=
  match l[z.toNat]? with
  | some m => if (bNext m.f1 tg (levOf ws m.f1)).2 = 0 then (⟨z, (bNext m.f1 tg (levOf ws m.f1)).1.f1, (bNext m.f1 tg (levOf ws m.f1)).1.f2, (bNext m.f1 tg (levOf ws m.f1)).1.f3, (bNext m.f1 tg (levOf ws m.f1)).1.f4⟩, 0) else bNext m.f1 tg (levOf ws m.f1)
  | none => (zr, 6)
def relGo (f : Int → Rl × Int) : List Int → List Rl → List Rl × Int
  | [], acc => (acc, 0)
  | z :: t, acc => if (f z).2 = 0 then relGo f t (acc ++ [(f z).1]) else ([], (f z).2)
def upsOf (l : List Md) (ch : List Int) (ws : List Wt) : List Int := upG l (wantGo l ws 0 ws ch).1
def relOf (l : List Md) (tg : List Tg) (ch : List Int) (ws : List Wt) : List Rl × Int :=
  if (ordG l).2 = 0 then
    if (wantGo l ws 0 ws ch).2 = 0 then relGo (relAt l tg ws) ((ordG l).1.filter fun z => (upsOf l ch ws).contains z) []
    else ([], (wantGo l ws 0 ws ch).2)
  else ([], (ordG l).2)
def zm : Md := ⟨⟨#[]⟩, ⟨#[]⟩, []⟩
/-- Is a release that of a path? -/
def hit (l : List Md) (p : ByteArray) (r : Rl) : Bool := decide (0 ≤ r.f0) && (decide (r.f0 < (l.length : Int)) && decide ((l.getD r.f0.toNat zm).f1 = p))
def editGo (l : List Md) (rs : List Rl) : List Rq → List Rq
  | [] => []
  | q :: t => (match rs.find? (hit l q.f0) with | some r => [⟨q.f0, r.f3⟩] | none => []) ++ editGo l rs t
def editsOf (l : List Md) (rs : List Rl) (at_ : Int) : List Rq :=
  if 0 ≤ at_ then (if at_ < (l.length : Int) then editGo l rs (l.getD at_.toNat zm).f2 else []) else []
theorem relGo_ok {f : Int → Rl × Int} : ∀ {zs : List Int} {acc rs : List Rl}, relGo f zs acc = (rs, 0) → rs = acc ++ zs.map (fun z => (f z).1) ∧ ∀ z ∈ zs, (f z).2 = 0
  | [], acc, rs, h => by
    have := (Prod.mk.inj h).1
    subst this
    exact ⟨by simp, fun _ h => by cases h⟩
  | z :: t, acc, rs, h => by
    unfold relGo at h
    split at h
    · rename_i hz
      obtain ⟨h1, h2⟩ := relGo_ok h
      refine ⟨by rw [h1, List.map_cons, List.append_assoc]; rfl, fun y hy => ?_⟩
      rcases List.mem_cons.1 hy with rfl | hy
      · exact hz
      · exact h2 y hy
    · rename_i hz
      exact absurd (Prod.mk.inj h).2 hz
theorem relGo_all {f : Int → Rl × Int} : ∀ {zs : List Int} {acc : List Rl}, (∀ z ∈ zs, (f z).2 = 0) → relGo f zs acc = (acc ++ zs.map (fun z => (f z).1), 0)
  | [], acc, h => by simp [relGo]
  | z :: t, acc, h => by
    unfold relGo
    rw [if_pos (h z List.mem_cons_self), relGo_all fun y hy => h y (List.mem_cons_of_mem _ hy), List.map_cons, List.append_assoc]
    rfl
theorem relGo_bad {f : Int → Rl × Int} : ∀ {zs : List Int} {acc : List Rl}, (relGo f zs acc).2 ≠ 0 → (relGo f zs acc).1 = []
  | [], acc, h => absurd rfl h
  | z :: t, acc, h => by
    unfold relGo at h ⊢
    split
    · rename_i hz
      rw [if_pos hz] at h
      exact relGo_bad h
    · rfl
theorem relOf_bad {l : List Md} {tg : List Tg} {ch : List Int} {ws : List Wt} (h : (relOf l tg ch ws).2 ≠ 0) : (relOf l tg ch ws).1 = [] := by
  unfold relOf at h ⊢
  split
  · rename_i h1
    rw [if_pos h1] at h
    split
    · rename_i h2
      rw [if_pos h2] at h
      exact relGo_bad h
    · rfl
  · rfl
theorem edgy (l : List Md) : Edgy (edgesOf l) l.length := ⟨fun i z hz => edgesOf_nn l i z hz⟩
theorem relGo_len {f : Int → Rl × Int} : ∀ {zs : List Int} {acc : List Rl}, (relGo f zs acc).1.length ≤ acc.length + zs.length
  | [], acc => by simp [relGo]
  | z :: t, acc => by
    unfold relGo
    split
    · have := @relGo_len f t (acc ++ [(f z).1])
      rw [List.length_append] at this
      simp only [List.length_cons, List.length_nil] at this ⊢
      omega
    · simp
/-- What an order of modules is that may be. -/
theorem ord_ok {l : List Md} (h : (ordG l).2 = 0) : gcheck l = 0 ∧ l.length ≤ 12 ∧ OrdOk (edgesOf l) l.length (ordG l).1 ∧ (ordG l).1.length = l.length := by
  unfold ordG at h ⊢
  split at h
  · rename_i h0
    rw [if_pos h0]
    rcases orderOf_cases (edgy l) with ⟨o, e, ho, hlen, hac⟩ | ⟨e, i, hi, hr⟩
    · rw [e]
      exact ⟨h0, gcheck_len h0, ho, hlen⟩
    · rw [e] at h
      cases h
  · rename_i h0
    exact absurd h h0
theorem ord_mem {l : List Md} (h : (ordG l).2 = 0) {z : Int} : z ∈ (ordG l).1 ↔ 0 ≤ z ∧ z.toNat < l.length := by
  obtain ⟨h0, h12, ho, hlen⟩ := ord_ok h
  constructor
  · exact ho.sub z
  · rintro ⟨h1, h2⟩
    have := nodup_full ho.nodup ho.sub (by omega) z.toNat h2
    rwa [Int.toNat_of_nonneg h1] at this
theorem relOf_len (l : List Md) (tg : List Tg) (ch : List Int) (ws : List Wt) : (relOf l tg ch ws).1.length ≤ 12 := by
  unfold relOf
  split
  · rename_i h1
    obtain ⟨h0, h12, ho, hlen⟩ := ord_ok h1
    split
    · have h1 := @relGo_len (relAt l tg ws) ((ordG l).1.filter fun z => (upsOf l ch ws).contains z) []
      have h2 := List.length_filter_le (fun z => (upsOf l ch ws).contains z) (ordG l).1
      simp only [List.length_nil] at h1
      omega
    · simp
  · simp
/-- What releases are that may be. -/
structure RelIs (l : List Md) (tg : List Tg) (ch : List Int) (ws : List Wt) (rs : List Rl) : Prop where
  ord : (ordG l).2 = 0
  want : (wantGo l ws 0 ws ch).2 = 0
  list : rs = ((ordG l).1.filter fun z => (upsOf l ch ws).contains z).map (fun z => (relAt l tg ws z).1)
  good : ∀ z ∈ (ordG l).1.filter fun z => (upsOf l ch ws).contains z, (relAt l tg ws z).2 = 0
theorem rel_is {l : List Md} {tg : List Tg} {ch : List Int} {ws : List Wt} {rs : List Rl} (h : relOf l tg ch ws = (rs, 0)) : RelIs l tg ch ws rs := by
  unfold relOf at h
  split at h
  case isFalse h1 => exact absurd (Prod.mk.inj h).2 h1
  rename_i h1
  split at h
  case isFalse h2 => exact absurd (Prod.mk.inj h).2 h2
  rename_i h2
  obtain ⟨h3, h4⟩ := relGo_ok h
  exact ⟨h1, h2, h3, h4⟩
theorem relAt_at {l : List Md} {tg : List Tg} {ws : List Wt} {z : Int} (h : (relAt l tg ws z).2 = 0) : (relAt l tg ws z).1.f0 = z ∧ ∃ m, l[z.toNat]? = some m ∧ vfits m.f1 (relAt l tg ws z).1.f3 = true ∧ ((relAt l tg ws z).1.f1 = true → vcmp (relAt l tg ws z).1.f2 (relAt l tg ws z).1.f3 = -1) := by
  unfold relAt at h ⊢
  split
  · rename_i m hm
    rw [hm] at h
    simp only at h
    by_cases hz : (bNext m.f1 tg (levOf ws m.f1)).2 = 0
    · rw [if_pos hz]
      obtain ⟨_, _, h3, h4⟩ := next_ok (r := (bNext m.f1 tg (levOf ws m.f1)).1) (Prod.ext rfl hz)
      exact ⟨rfl, m, hm, h3, h4⟩
    · rw [if_neg hz] at h
      exact absurd h hz
  · rename_i hm
    rw [hm] at h
    cases h
/-- The places of those who are released. -/
theorem RelIs.ats {l : List Md} {tg : List Tg} {ch : List Int} {ws : List Wt} {rs : List Rl} (h : RelIs l tg ch ws rs) : rs.map (·.f0) = (ordG l).1.filter fun z => (upsOf l ch ws).contains z := by
  rw [h.list, List.map_map]
  refine (List.map_congr_left (g := id) fun z hz => ?_).trans (List.map_id _)
  exact (relAt_at (h.good z hz)).1
theorem RelIs.mem {l : List Md} {tg : List Tg} {ch : List Int} {ws : List Wt} {rs : List Rl} (h : RelIs l tg ch ws rs) {z : Int} : z ∈ rs.map (·.f0) ↔ z ∈ upsOf l ch ws := by
  obtain ⟨h0, h12, _, _⟩ := ord_ok h.ord
  rw [h.ats, List.mem_filter, List.contains_iff_mem]
  constructor
  · exact fun h => h.2
  · intro hz
    refine ⟨(ord_mem h.ord).2 ?_, hz⟩
    unfold upsOf upG at hz
    rw [if_pos h0] at hz
    obtain ⟨h1, h2, _⟩ := (mem_upOf (edgy l) h12).1 hz
    exact ⟨h1, h2⟩
theorem RelIs.nodup {l : List Md} {tg : List Tg} {ch : List Int} {ws : List Wt} {rs : List Rl} (h : RelIs l tg ch ws rs) : (rs.map (·.f0)).Nodup := by
  obtain ⟨_, _, ho, _⟩ := ord_ok h.ord
  rw [h.ats]
  exact ho.nodup.filter _
theorem RelIs.each {l : List Md} {tg : List Tg} {ch : List Int} {ws : List Wt} {rs : List Rl} (h : RelIs l tg ch ws rs) {r : Rl} (hr : r ∈ rs) : 0 ≤ r.f0 ∧ ∃ m, l[r.f0.toNat]? = some m ∧ vfits m.f1 r.f3 = true ∧ (r.f1 = true → vcmp r.f2 r.f3 = -1) := by
  rw [h.list] at hr
  obtain ⟨z, hz, rfl⟩ := List.mem_map.1 hr
  obtain ⟨h1, h2⟩ := relAt_at (h.good z hz)
  rw [h1]
  exact ⟨((ord_mem h.ord).1 (List.mem_filter.1 hz).1).1, h2⟩
/-- Behind whom a module comes. -/
theorem filter_behind {p : Int → Bool} : ∀ {o : List Int} {i : Nat} {z y : Int}, (o.filter p)[i]? = some z → (∀ k, o[k]? = some z → y ∈ o.take k) → p y = true → y ∈ (o.filter p).take i
  | [], i, z, y, h, _, _ => by simp at h
  | x :: o, i, z, y, h, hb, hy => by
    rw [List.filter_cons] at h ⊢
    by_cases hx : p x = true
    · rw [if_pos hx] at h ⊢
      cases i with
      | zero =>
        obtain rfl : x = z := by simpa using h
        have := hb 0 rfl
        simp at this
      | succ i =>
        rw [List.take_succ_cons]
        by_cases e : y = x
        · exact e ▸ List.mem_cons_self
        · refine List.mem_cons_of_mem _ (filter_behind (by simpa using h) (fun k hk => ?_) hy)
          have := hb (k + 1) (by simpa using hk)
          rw [List.take_succ_cons] at this
          rcases List.mem_cons.1 this with h | h
          · exact absurd h e
          · exact h
    · rw [if_neg hx] at h ⊢
      refine filter_behind h (fun k hk => ?_) hy
      have := hb (k + 1) (by simpa using hk)
      rw [List.take_succ_cons] at this
      rcases List.mem_cons.1 this with h | h
      · exact absurd (h ▸ hy) hx
      · exact h
theorem OrdOk.at {E : Nat → List Int} {n : Nat} {o : List Int} (h : OrdOk E n o) : ∀ (k : Nat) (z : Int), o[k]? = some z → z ∉ o.take k ∧ ∀ y ∈ E z.toNat, y ∈ o.take k := by
  induction h with
  | nil => intro k z hk; simp at hk
  | @snoc o w ho h0 h1 hw hy ih =>
    intro k z hk
    by_cases hlt : k < o.length
    · rw [List.getElem?_append_left hlt] at hk
      rw [List.take_append_of_le_length (by omega)]
      exact ih k z hk
    · rw [List.getElem?_append_right (by omega)] at hk
      have hk0 : k - o.length = 0 := by
        have := (List.getElem?_eq_some_iff.1 hk).1
        simp at this; omega
      rw [hk0] at hk
      obtain rfl : w = z := by simpa using hk
      have hke : k = o.length := by omega
      subst hke
      rw [List.take_left]
      exact ⟨hw, hy⟩
theorem RelIs.behind {l : List Md} {tg : List Tg} {ch : List Int} {ws : List Wt} {rs : List Rl} (h : RelIs l tg ch ws rs) {i : Nat} {r : Rl} (hr : rs[i]? = some r) : r.f0 ∉ (rs.map (·.f0)).take i ∧ ∀ y ∈ edgesOf l r.f0.toNat, y ∈ rs.map (·.f0) → y ∈ (rs.map (·.f0)).take i := by
  have hg : (rs.map (·.f0))[i]? = some r.f0 := by rw [List.getElem?_map, hr]; rfl
  constructor
  · intro hm
    obtain ⟨j, hj, e⟩ := List.getElem_of_mem hm
    rw [List.length_take] at hj
    rw [List.getElem_take] at e
    have hi := (List.getElem?_eq_some_iff.1 hg).1
    have := (List.pairwise_iff_getElem.1 h.nodup) j i (by omega) hi (by omega)
    rw [e, (List.getElem?_eq_some_iff.1 hg).2] at this
    exact this rfl
  · intro y hy hm
    have hu := h.mem.1 hm
    obtain ⟨_, _, ho, _⟩ := ord_ok h.ord
    rw [h.ats] at hg ⊢
    exact filter_behind hg (fun k hk => (ho.at k _ hk).2 y hy) (List.contains_iff_mem.2 hu)
/-- The places that wants lay behind. -/
theorem wantGo_ok {l : List Md} {ws : List Wt} : ∀ {t : List Wt} {i : Nat} {fr : List Int}, (wantGo l ws i t fr).2 = 0 → (wantGo l ws i t fr).1 = fr ++ t.map (fun w => placeOf l w.f0) ∧ ∀ w ∈ t, 0 ≤ placeOf l w.f0
  | [], i, fr, h => ⟨by simp [wantGo], fun _ h => by cases h⟩
  | w :: t, i, fr, h => by
    unfold wantGo at h ⊢
    split at h
    · rename_i hz
      rw [if_pos hz]
      obtain ⟨h1, h2⟩ := wantGo_ok h
      refine ⟨by rw [h1, List.map_cons, List.append_assoc]; rfl, fun y hy => ?_⟩
      rcases List.mem_cons.1 hy with rfl | hy
      · unfold wantBad at hz
        split at hz
        · cases hz
        · omega
      · exact h2 y hy
    · rename_i hz
      exact absurd h hz
theorem wantGo_err {l : List Md} {ws : List Wt} : ∀ {t : List Wt} {i : Nat} {fr gr : List Int}, (wantGo l ws i t fr).2 = (wantGo l ws i t gr).2
  | [], i, fr, gr => rfl
  | w :: t, i, fr, gr => by
    unfold wantGo
    split
    · exact wantGo_err
    · rfl
theorem place_mem {l : List Md} (h : gcheck l = 0) {w : Wt} {i : Nat} {m : Md} (hm : l[i]? = some m) (hp : 0 ≤ placeOf l w.f0) : placeOf l w.f0 = (i : Int) ↔ w.f0 = m.f1 := by
  constructor
  · intro e
    rcases idxFrom_cases (fun y : Md => y.f1.toList == w.f0.toList) l 0 with ⟨k, y, h1, h2, h3, _⟩ | ⟨h2, _⟩
    · unfold placeOf at e
      rw [h3] at e
      have : k = i := by omega
      subst this
      rw [hm] at h1
      obtain rfl := Option.some.inj h1
      rw [tl_eq, decide_eq_true_eq] at h2
      exact h2.symm
    · unfold placeOf at e
      rw [h2] at e; omega
  · intro e
    rw [e]
    exact gcheck_place h i m hm
/-- Who is up: who changed, who is wanted, who requires one who is up. -/
theorem RelIs.who {l : List Md} {tg : List Tg} {ch : List Int} {ws : List Wt} {rs : List Rl} (h : RelIs l tg ch ws rs) {i : Nat} {m : Md} (hm : l[i]? = some m) : (i : Int) ∈ rs.map (·.f0) ↔ (i : Int) ∈ ch ∨ (∃ w ∈ ws, w.f0 = m.f1) ∨ ∃ d ∈ edgesOf l i, d ∈ rs.map (·.f0) := by
  obtain ⟨h0, h12, _, _⟩ := ord_ok h.ord
  obtain ⟨h1, h2⟩ := wantGo_ok h.want
  have hi := (List.getElem?_eq_some_iff.1 hm).1
  have hu : upsOf l ch ws = upOf (edgesOf l) l.length (ch ++ ws.map fun w => placeOf l w.f0) := by unfold upsOf upG; rw [if_pos h0, h1]
  rw [h.mem, hu, up_step (edgy l) h12 hi, List.mem_append, or_assoc]
  refine or_congr Iff.rfl (or_congr ?_ ?_)
  · rw [List.mem_map]
    constructor
    · rintro ⟨w, hw, e⟩
      exact ⟨w, hw, (place_mem h0 hm (h2 w hw)).1 e⟩
    · rintro ⟨w, hw, e⟩
      exact ⟨w, hw, (place_mem h0 hm (h2 w hw)).2 e⟩
  · refine exists_congr fun d => and_congr_right fun _ => ?_
    rw [h.mem, hu]
/-- One who changed more releases no fewer. -/
theorem rel_more {l : List Md} {tg : List Tg} {ch : List Int} {ws : List Wt} {more : Int} {b : List Rl} (h : relOf l tg (ch ++ [more]) ws = (b, 0)) : ∃ a, relOf l tg ch ws = (a, 0) ∧ a.Sublist b := by
  have H := rel_is h
  obtain ⟨h0, h12, _, _⟩ := ord_ok H.ord
  have hw : (wantGo l ws 0 ws ch).2 = 0 := by rw [wantGo_err (gr := ch ++ [more])]; exact H.want
  obtain ⟨h1, _⟩ := wantGo_ok H.want
  obtain ⟨h2, _⟩ := wantGo_ok hw
  have hsub : ∀ z, (upsOf l ch ws).contains z = true → (upsOf l (ch ++ [more]) ws).contains z = true := by
    intro z hz
    rw [List.contains_iff_mem] at hz ⊢
    unfold upsOf upG at hz ⊢
    rw [if_pos h0] at hz ⊢
    refine up_more (edgy l) h12 (fun y hy => ?_) hz
    rw [h2] at hy
    rw [h1]
    rcases List.mem_append.1 hy with hy | hy
    · exact List.mem_append_left _ (List.mem_append_left _ hy)
    · exact List.mem_append_right _ hy
  have hfil : ((ordG l).1.filter fun z => (upsOf l ch ws).contains z) = ((ordG l).1.filter fun z => (upsOf l (ch ++ [more]) ws).contains z).filter fun z => (upsOf l ch ws).contains z := by
    rw [List.filter_filter]
    refine List.filter_congr fun z _ => ?_
    cases hz : (upsOf l ch ws).contains z
    · rfl
    · rw [hsub z hz]; rfl
  have hsl : ((ordG l).1.filter fun z => (upsOf l ch ws).contains z).Sublist ((ordG l).1.filter fun z => (upsOf l (ch ++ [more]) ws).contains z) := by
    rw [hfil]; exact List.filter_sublist
  refine ⟨((ordG l).1.filter fun z => (upsOf l ch ws).contains z).map (fun z => (relAt l tg ws z).1), ?_, ?_⟩
  · unfold relOf
    rw [if_pos H.ord, if_pos hw, relGo_all fun z hz => H.good z (hsl.subset hz), List.nil_append]
  · rw [H.list]
    exact hsl.map _
theorem rel_none {l : List Md} {tg : List Tg} : (relOf l tg [] []).1 = [] ∧ (relOf l tg [] []).2 = (ordG l).2 := by
  unfold relOf
  have hw : wantGo l [] 0 [] [] = ([], 0) := rfl
  rw [hw]
  split
  · rename_i h1
    obtain ⟨h0, h12, _, _⟩ := ord_ok h1
    have hu : upsOf l [] [] = [] := by
      unfold upsOf
      rw [hw]
      unfold upG
      rw [if_pos h0]
      refine List.eq_nil_iff_forall_not_mem.2 fun z hz => ?_
      obtain ⟨_, _, h | ⟨y, h, _⟩⟩ := (mem_upOf (edgy l) h12).1 hz
      · cases h
      · cases h
    rw [if_pos rfl, hu, h1]
    have : ((ordG l).1.filter fun z => ([] : List Int).contains z) = [] := List.filter_eq_nil_iff.2 (by simp)
    rw [this]
    exact ⟨rfl, rfl⟩
  · exact ⟨rfl, rfl⟩
theorem rel_ord {l : List Md} {tg : List Tg} {ch : List Int} {ws : List Wt} (h : (ordG l).2 ≠ 0) : (relOf l tg ch ws).2 ≠ 0 := by
  unfold relOf
  rw [if_neg h]
  exact h
end Go.Proofs.YtillhaipemengaaGreatDoor
end
