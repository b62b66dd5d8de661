/- The texts BpRel, BpFns in one file, without what these claims do not use (put together by prune2.py). -/
import Derived.Test.YtillhaipemengaaGreatDoorZC16
section
namespace Go.Proofs.YtillhaipemengaaGreatDoor
open Go Go.RowKit Go.Proofs.YtillhaipemengaaGreatDoorW.PrintWords Go.Proofs.YtillhaipemengaaGreatDoor.K0 Go.Proofs.YtillhaipemengaaGreatDoor.R1
set_option linter.unusedVariables false
set_option linter.unusedSimpArgs false
theorem tl_eq (a b : ByteArray) : (a.toList == b.toList) = decide (a = b) := by
  rw [ByteArray.toList_eq, ByteArray.toList_eq, Bool.eq_iff_iff, beq_iff_eq, decide_eq_true_eq]
  exact ⟨fun h => by_data h, fun h => by rw [h]⟩
/-- Why a want may not be. -/
def wantBad (l : List Md) (ws : List Wt) (i : Nat) (w : Wt) : Int :=
  if placeOf l w.f0 < 0 then 5 else if lvlOk w.f1 = true then (if (ws.take i).any (fun x => decide (x.f0 = w.f0)) = true then 11 else 0) else 1
def wantGo (l : List Md) (ws : List Wt) : Nat → List Wt → List Int → List Int × Int
  | _, [], fr => (fr, 0)
  | i, w :: t, fr => if wantBad l ws i w = 0 then wantGo l ws (i + 1) t (fr ++ [placeOf l w.f0]) else ([], wantBad l ws i w)
def levOf (ws : List Wt) (p : ByteArray) : Int :=
  match ws.find? (fun w => decide (w.f0 = p)) with
  | some w => w.f1
  | none => 1
def relAt (l : List Md) (tg : List Tg) (ws : List Wt) (z : Int) : Rl × Int :=
  match l[z.toNat]? with
  | some m => if (bNext m.f1 tg (levOf ws m.f1)).2 = 0 then (⟨z, (bNext m.f1 tg (levOf ws m.f1)).1.f1, (bNext m.f1 tg (levOf ws m.f1)).1.f2, (bNext m.f1 tg (levOf ws m.f1)).1.f3, (bNext m.f1 tg (levOf ws m.f1)).1.f4⟩, 0) else bNext m.f1 tg (levOf ws m.f1)
  | none => (zr, 6)
def relGo (f : Int → Rl × Int) : List Int → List Rl → List Rl × Int
  | [], acc => (acc, 0)
  | z :: t, acc => if (f z).2 = 0 then relGo f t (acc ++ [(f z).1]) else ([], (f z).2)
def upsOf (l : List Md) (ch : List Int) (ws : List Wt) : List Int := upG l (wantGo l ws 0 ws ch).1
def relOf (l : List Md) (tg : List Tg) (ch : List Int) (ws : List Wt) : List Rl × Int :=
  if (ordG l).2 = 0 then
    if (wantGo l ws 0 ws ch).2 = 0 then relGo (relAt l tg ws) ((ordG l).1.filter fun z => (upsOf l ch ws).contains z) []
    else ([], (wantGo l ws 0 ws ch).2)
  else ([], (ordG l).2)
def zm : Md := ⟨⟨#[]⟩, ⟨#[]⟩, []⟩
/-- Is a release that of a path? -/
def hit (l : List Md) (p : ByteArray) (r : Rl) : Bool := decide (0 ≤ r.f0) && (decide (r.f0 < (l.length : Int)) && decide ((l.getD r.f0.toNat zm).f1 = p))
def editGo (l : List Md) (rs : List Rl) : List Rq → List Rq
  | [] => []
  | q :: t => (match rs.find? (hit l q.f0) with | some r => [⟨q.f0, r.f3⟩] | none => []) ++ editGo l rs t
def editsOf (l : List Md) (rs : List Rl) (at_ : Int) : List Rq :=
  if 0 ≤ at_ then (if at_ < (l.length : Int) then editGo l rs (l.getD at_.toNat zm).f2 else []) else []
theorem relGo_ok {f : Int → Rl × Int} : ∀ {zs : List Int} {acc rs : List Rl}, relGo f zs acc = (rs, 0) → rs = acc ++ zs.map (fun z => (f z).1) ∧ ∀ z ∈ zs, (f z).2 = 0
  | [], acc, rs, h => by
    have := (Prod.mk.inj h).1
    subst this
    exact ⟨by simp, fun _ h => by cases h⟩
  | z :: t, acc, rs, h => by
    unfold relGo at h
    split at h
    · rename_i hz
      obtain ⟨h1, h2⟩ := relGo_ok h
      refine ⟨by rw [h1, List.map_cons, List.append_assoc]; rfl, fun y hy => ?_⟩
      rcases List.mem_cons.1 hy with rfl | hy
      · exact hz
      · exact h2 y hy
    · rename_i hz
      exact absurd (Prod.mk.inj h).2 hz
theorem relGo_all {f : Int → Rl × Int} : ∀ {zs : List Int} {acc : List Rl}, (∀ z ∈ zs, (f z).2 = 0) → relGo f zs acc = (acc ++ zs.map (fun z => (f z).1), 0)
  | [], acc, h => by simp [relGo]
  | z :: t, acc, h => by
    unfold relGo
    rw [if_pos (h z List.mem_cons_self), relGo_all fun y hy => h y (List.mem_cons_of_mem _ hy), List.map_cons, List.append_assoc]
    rfl
theorem relGo_bad {f : Int → Rl × Int} : ∀ {zs : List Int} {acc : List Rl}, (relGo f zs acc).2 ≠ 0 → (relGo f zs acc).1 = []
  | [], acc, h => absurd rfl h
  | z :: t, acc, h => by
    unfold relGo at h ⊢
    split
    · rename_i hz
      rw [if_pos hz] at h
      exact relGo_bad h
    · rfl
theorem relOf_bad {l : List Md} {tg : List Tg} {ch : List Int} {ws : List Wt} (h : (relOf l tg ch ws).2 ≠ 0) : (relOf l tg ch ws).1 = [] := by
  unfold relOf at h ⊢
  split
  · rename_i h1
    rw [if_pos h1] at h
    split
    · rename_i h2
      rw [if_pos h2] at h
      exact relGo_bad h
    · rfl
  · rfl
theorem edgy (l : List Md) : Edgy (edgesOf l) l.length := ⟨fun i z hz => edgesOf_nn l i z hz⟩
theorem relGo_len {f : Int → Rl × Int} : ∀ {zs : List Int} {acc : List Rl}, (relGo f zs acc).1.length ≤ acc.length + zs.length
  | [], acc => by simp [relGo]
  | z :: t, acc => by
    unfold relGo
    split
    · have := @relGo_len f t (acc ++ [(f z).1])
      rw [List.length_append] at this
      simp only [List.length_cons, List.length_nil] at this ⊢
      omega
    · simp
/-- What an order of modules is that may be. -/
theorem ord_ok {l : List Md} (h : (ordG l).2 = 0) : gcheck l = 0 ∧ l.length ≤ 12 ∧ OrdOk (edgesOf l) l.length (ordG l).1 ∧ (ordG l).1.length = l.length := by
  unfold ordG at h ⊢
  split at h
  · rename_i h0
    rw [if_pos h0]
    rcases orderOf_cases (edgy l) with ⟨o, e, ho, hlen, hac⟩ | ⟨e, i, hi, hr⟩
    · rw [e]
      exact ⟨h0, gcheck_len h0, ho, hlen⟩
    · rw [e] at h
      cases h
  · rename_i h0
    exact absurd h h0
theorem ord_mem {l : List Md} (h : (ordG l).2 = 0) {z : Int} : z ∈ (ordG l).1 ↔ 0 ≤ z ∧ z.toNat < l.length := by
  obtain ⟨h0, h12, ho, hlen⟩ := ord_ok h
  constructor
  · exact ho.sub z
  · rintro ⟨h1, h2⟩
    have := nodup_full ho.nodup ho.sub (by omega) z.toNat h2
    rwa [Int.toNat_of_nonneg h1] at this
theorem relOf_len (l : List Md) (tg : List Tg) (ch : List Int) (ws : List Wt) : (relOf l tg ch ws).1.length ≤ 12 := by
  unfold relOf
  split
  · rename_i h1
    obtain ⟨h0, h12, ho, hlen⟩ := ord_ok h1
    split
    · have h1 := @relGo_len (relAt l tg ws) ((ordG l).1.filter fun z => (upsOf l ch ws).contains z) []
      have h2 := List.length_filter_le (fun z => (upsOf l ch ws).contains z) (ordG l).1
      simp only [List.length_nil] at h1
      omega
    · simp
  · simp
/-- What releases are that may be. -/
structure RelIs (l : List Md) (tg : List Tg) (ch : List Int) (ws : List Wt) (rs : List Rl) : Prop where
  ord : (ordG l).2 = 0
  want : (wantGo l ws 0 ws ch).2 = 0
  list : rs = ((ordG l).1.filter fun z => (upsOf l ch ws).contains z).map (fun z => (relAt l tg ws z).1)
  good : ∀ z ∈ (ordG l).1.filter fun z => (upsOf l ch ws).contains z, (relAt l tg ws z).2 = 0
theorem rel_is {l : List Md} {tg : List Tg} {ch : List Int} {ws : List Wt} {rs : List Rl} (h : relOf l tg ch ws = (rs, 0)) : RelIs l tg ch ws rs := by
  unfold relOf at h
  split at h
  case isFalse h1 => exact absurd (Prod.mk.inj h).2 h1
  rename_i h1
  split at h
  case isFalse h2 => exact absurd (Prod.mk.inj h).2 h2
  rename_i h2
  obtain ⟨h3, h4⟩ := relGo_ok h
  exact ⟨h1, h2, h3, h4⟩
theorem relAt_at {l : List Md} {tg : List Tg} {ws : List Wt} {z : Int} (h : (relAt l tg ws z).2 = 0) : (relAt l tg ws z).1.f0 = z ∧ ∃ m, l[z.toNat]? = some m ∧ vfits m.f1 (relAt l tg ws z).1.f3 = true ∧ ((relAt l tg ws z).1.f1 = true → vcmp (relAt l tg ws z).1.f2 (relAt l tg ws z).1.f3 = -1) := by
  unfold relAt at h ⊢
  split
  · rename_i m hm
    rw [hm] at h
    simp only at h
    by_cases hz : (bNext m.f1 tg (levOf ws m.f1)).2 = 0
    · rw [if_pos hz]
      obtain ⟨_, _, h3, h4⟩ := next_ok (r := (bNext m.f1 tg (levOf ws m.f1)).1) (Prod.ext rfl hz)
      exact ⟨rfl, m, hm, h3, h4⟩
    · rw [if_neg hz] at h
      exact absurd h hz
  · rename_i hm
    rw [hm] at h
    cases h
/-- The places of those who are released. -/
theorem RelIs.ats {l : List Md} {tg : List Tg} {ch : List Int} {ws : List Wt} {rs : List Rl} (h : RelIs l tg ch ws rs) : rs.map (·.f0) = (ordG l).1.filter fun z => (upsOf l ch ws).contains z := by
  rw [h.list, List.map_map]
  refine (List.map_congr_left (g := id) fun z hz => ?_).trans (List.map_id _)
  exact (relAt_at (h.good z hz)).1
theorem RelIs.mem {l : List Md} {tg : List Tg} {ch : List Int} {ws : List Wt} {rs : List Rl} (h : RelIs l tg ch ws rs) {z : Int} : z ∈ rs.map (·.f0) ↔ z ∈ upsOf l ch ws := by
  obtain ⟨h0, h12, _, _⟩ := ord_ok h.ord
  rw [h.ats, List.mem_filter, List.contains_iff_mem]
  constructor
  · exact fun h => h.2
  · intro hz
    refine ⟨(ord_mem h.ord).2 ?_, hz⟩
    unfold upsOf upG at hz
    rw [if_pos h0] at hz
    obtain ⟨h1, h2, _⟩ := (mem_upOf (edgy l) h12).1 hz
    exact ⟨h1, h2⟩
theorem RelIs.nodup {l : List Md} {tg : List Tg} {ch : List Int} {ws : List Wt} {rs : List Rl} (h : RelIs l tg ch ws rs) : (rs.map (·.f0)).Nodup := by
  obtain ⟨_, _, ho, _⟩ := ord_ok h.ord
  rw [h.ats]
  exact ho.nodup.filter _
theorem RelIs.each {l : List Md} {tg : List Tg} {ch : List Int} {ws : List Wt} {rs : List Rl} (h : RelIs l tg ch ws rs) {r : Rl} (hr : r ∈ rs) : 0 ≤ r.f0 ∧ ∃ m, l[r.f0.toNat]? = some m ∧ vfits m.f1 r.f3 = true ∧ (r.f1 = true → vcmp r.f2 r.f3 = -1) := by
  rw [h.list] at hr
  obtain ⟨z, hz, rfl⟩ := List.mem_map.1 hr
  obtain ⟨h1, h2⟩ := relAt_at (h.good z hz)
  rw [h1]
  exact ⟨((ord_mem h.ord).1 (List.mem_filter.1 hz).1).1, h2⟩
/-- Behind whom a module comes. -/
theorem filter_behind {p : Int → Bool} : ∀ {o : List Int} {i : Nat} {z y : Int}, (o.filter p)[i]? = some z → (∀ k, o[k]? = some z → y ∈ o.take k) → p y = true → y ∈ (o.filter p).take i
  | [], i, z, y, h, _, _ => by simp at h
  | x :: o, i, z, y, h, hb, hy => by
    rw [List.filter_cons] at h ⊢
    by_cases hx : p x = true
    · rw [if_pos hx] at h ⊢
      cases i with
      | zero =>
        obtain rfl : x = z := by simpa using h
        have := hb 0 rfl
        simp at this
      | succ i =>
        rw [List.take_succ_cons]
        by_cases e : y = x
        · exact e ▸ List.mem_cons_self
        · refine List.mem_cons_of_mem _ (filter_behind (by simpa using h) (fun k hk => ?_) hy)
          have := hb (k + 1) (by simpa using hk)
          rw [List.take_succ_cons] at this
          rcases List.mem_cons.1 this with h | h
          · exact absurd h e
          · exact h
    · rw [if_neg hx] at h ⊢
      refine filter_behind h (fun k hk => ?_) hy
      have := hb (k + 1) (by simpa using hk)
      rw [List.take_succ_cons] at this
      rcases List.mem_cons.1 this with h | h
      · exact absurd (h ▸ hy) hx
      · exact h
theorem OrdOk.at {E : Nat → List Int} {n : Nat} {o : List Int} (h : OrdOk E n o) : ∀ (k : Nat) (z : Int), o[k]? = some z → z ∉ o.take k ∧ ∀ y ∈ E z.toNat, y ∈ o.take k := by
  induction h with
  | nil => intro k z hk; simp at hk
  | @snoc o w ho h0 h1 hw hy ih =>
    intro k z hk
    by_cases hlt : k < o.length
    · rw [List.getElem?_append_left hlt] at hk
      rw [List.take_append_of_le_length (by omega)]
      exact ih k z hk
    · rw [List.getElem?_append_right (by omega)] at hk
      have hk0 : k - o.length = 0 := by
        have := (List.getElem?_eq_some_iff.1 hk).1
        simp at this; omega
      rw [hk0] at hk
      obtain rfl : w = z := by simpa using hk
      have hke : k = o.length := by omega
      subst hke
      rw [List.take_left]
      exact ⟨hw, hy⟩
theorem RelIs.behind {l : List Md} {tg : List Tg} {ch : List Int} {ws : List Wt} {rs : List Rl} (h : RelIs l tg ch ws rs) {i : Nat} {r : Rl} (hr : rs[i]? = some r) : r.f0 ∉ (rs.map (·.f0)).take i ∧ ∀ y ∈ edgesOf l r.f0.toNat, y ∈ rs.map (·.f0) → y ∈ (rs.map (·.f0)).take i := by
  have hg : (rs.map (·.f0))[i]? = some r.f0 := by rw [List.getElem?_map, hr]; rfl
  constructor
  · intro hm
    obtain ⟨j, hj, e⟩ := List.getElem_of_mem hm
    rw [List.length_take] at hj
    rw [List.getElem_take] at e
    have hi := (List.getElem?_eq_some_iff.1 hg).1
    have := (List.pairwise_iff_getElem.1 h.nodup) j i (by omega) hi (by omega)
    rw [e, (List.getElem?_eq_some_iff.1 hg).2] at this
    exact this rfl
  · intro y hy hm
    have hu := h.mem.1 hm
    obtain ⟨_, _, ho, _⟩ := ord_ok h.ord
    rw [h.ats] at hg ⊢
    exact filter_behind hg (fun k hk => (ho.at k _ hk).2 y hy) (List.contains_iff_mem.2 hu)
/-- The places that wants lay behind. -/
theorem wantGo_ok {l : List Md} {ws : List Wt} : ∀ {t : List Wt} {i : Nat} {fr : List Int}, (wantGo l ws i t fr).2 = 0 → (wantGo l ws i t fr).1 = fr ++ t.map (fun w => placeOf l w.f0) ∧ ∀ w ∈ t, 0 ≤ placeOf l w.f0
  | [], i, fr, h => ⟨by simp [wantGo], fun _ h => by cases h⟩
  | w :: t, i, fr, h => by
    unfold wantGo at h ⊢
    split at h
    · rename_i hz
      rw [if_pos hz]
      obtain ⟨h1, h2⟩ := wantGo_ok h
      refine ⟨by rw [h1, List.map_cons, List.append_assoc]; rfl, fun y hy => ?_⟩
      rcases List.mem_cons.1 hy with rfl | hy
      · unfold wantBad at hz
        split at hz
        · cases hz
        · omega
      · exact h2 y hy
    · rename_i hz
      exact absurd h hz
theorem place_mem {l : List Md} (h : gcheck l = 0) {w : Wt} {i : Nat} {m : Md} (hm : l[i]? = some m) (hp : 0 ≤ placeOf l w.f0) : placeOf l w.f0 = (i : Int) ↔ w.f0 = m.f1 := by
  constructor
  · intro e
    rcases idxFrom_cases (fun y : Md => y.f1.toList == w.f0.toList) l 0 with ⟨k, y, h1, h2, h3, _⟩ | ⟨h2, _⟩
    · unfold placeOf at e
      rw [h3] at e
      have : k = i := by omega
      subst this
      rw [hm] at h1
      obtain rfl := Option.some.inj h1
      rw [tl_eq, decide_eq_true_eq] at h2
      exact h2.symm
    · unfold placeOf at e
      rw [h2] at e; omega
  · intro e
    rw [e]
    exact gcheck_place h i m hm
/-- Who is up: who changed, who is wanted, who requires one who is up. -/
theorem RelIs.who {l : List Md} {tg : List Tg} {ch : List Int} {ws : List Wt} {rs : List Rl} (h : RelIs l tg ch ws rs) {i : Nat} {m : Md} (hm : l[i]? = some m) : (i : Int) ∈ rs.map (·.f0) ↔ (i : Int) ∈ ch ∨ (∃ w ∈ ws, w.f0 = m.f1) ∨ ∃ d ∈ edgesOf l i, d ∈ rs.map (·.f0) := by
  obtain ⟨h0, h12, _, _⟩ := ord_ok h.ord
  obtain ⟨h1, h2⟩ := wantGo_ok h.want
  have hi := (List.getElem?_eq_some_iff.1 hm).1
  have hu : upsOf l ch ws = upOf (edgesOf l) l.length (ch ++ ws.map fun w => placeOf l w.f0) := by unfold upsOf upG; rw [if_pos h0, h1]
  rw [h.mem, hu, up_step (edgy l) h12 hi, List.mem_append, or_assoc]
  refine or_congr Iff.rfl (or_congr ?_ ?_)
  · rw [List.mem_map]
    constructor
    · rintro ⟨w, hw, e⟩
      exact ⟨w, hw, (place_mem h0 hm (h2 w hw)).1 e⟩
    · rintro ⟨w, hw, e⟩
      exact ⟨w, hw, (place_mem h0 hm (h2 w hw)).2 e⟩
  · refine exists_congr fun d => and_congr_right fun _ => ?_
    rw [h.mem, hu]
end Go.Proofs.YtillhaipemengaaGreatDoor
end

section
namespace Go.Proofs.YtillhaipemengaaGreatDoor
open Go Go.RowKit Go.Sort Go.Proofs Go.Proofs.YtillhaipemengaaGreatDoorW.PrintWords Go.Proofs.YtillhaipemengaaGreatDoor.K0
set_option linter.unusedVariables false
set_option linter.unusedSimpArgs false
abbrev plc (A0 A1 A3 : Option Addr) (n0 c0 n1 c1 n3 c3 : Nat) : Array Value := #[.slice A0 n0 c0, .slice A1 n1 c1, .slice A3 n3 c3]
theorem cell_new (w : World) (cs : Array Value) (t : TypeId) (j : Nat) (v : Value) (h : cs[j]? = some v) : (w.alloc (.cells cs t)).cell? ⟨w.heap.size, j, none⟩ = some v := by
  unfold World.cell?; rw [heap_alloc_new]; exact h
theorem levels_calls (n : Int) (w : World) : Calls Tryz.prog 29 #[.int .i64 n] w fun e w' => e = .returned (.bool (lvlOk n)) ∧ Below w.heap.size w w' := by
  unfold lvlOk
  by_cases h1 : 1 ≤ n
  · by_cases h2 : n ≤ 3
    · rw [decide_eq_true h1, decide_eq_true h2]
      go_enter Tryz.func29, Tryz.ntmps29
      go_wp2
      go_ret
      exact ⟨rfl, Below.refl _ _⟩
    · rw [decide_eq_true h1, decide_eq_false h2]
      go_enter Tryz.func29, Tryz.ntmps29
      go_wp2
      go_ret
      exact ⟨rfl, Below.refl _ _⟩
  · rw [decide_eq_false h1, Bool.false_and]
    go_enter Tryz.func29, Tryz.ntmps29
    go_wp2
    go_ret
    exact ⟨rfl, Below.refl _ _⟩
theorem place_clo (B : Nat) (path s p : ByteArray) (v : Value) (W : World) (h : W.cell? ⟨B, 0, none⟩ = some (.string path)) :
    Calls Tryz.prog 80 #[.agg #[.string s, .string p, v], .pointer (some ⟨B, 0, none⟩)] W fun e w' => e = .returned (.bool (p.toList == path.toList)) ∧ Below W.heap.size W w' := by
  have hlt : B < W.heap.size := World.block_lt_of_cell? W _ h
  have h2 : ∀ o, (W.alloc o).cell? ⟨B, 0, none⟩ = some (.string path) := fun o => (World.cell?_alloc_old W o _ (show B ≠ W.heap.size by omega)).trans h
  clear hlt
  go_enter Tryz.func80, Tryz.ntmps80
  go_wp2
  go_ret
  exact ⟨rfl, by repeat (first | exact Below.refl _ _ | apply below_alloc | apply pw_below_drewN | apply below_drew1)⟩
theorem place_calls (A0 A1 A3 : Option Addr) (c0 n1 c1 n3 c3 : Nat) (l : List Md) (path : ByteArray) (w : World) (hr : Kd.C k63 w A0 l.length l) :
    Calls Tryz.prog 42 #[.agg (plc A0 A1 A3 l.length c0 n1 c1 n3 c3), .string path] w fun e w' => e = .returned (.int .i64 (placeOf l path)) ∧ Below w.heap.size w w' := by
  have g1 := cell_new (w.alloc (.cells (plc A0 A1 A3 l.length c0 n1 c1 n3 c3) 86)) #[.string path] 9 0 _ rfl
  have hs : (w.alloc (.cells (plc A0 A1 A3 l.length c0 n1 c1 n3 c3) 86)).heap.size = w.heap.size + 1 := by simp
  rw [hs] at g1
  have hc := IndexFunc_Mod A0 c0 l (fun y => y.f1.toList == path.toList) 80 #[.pointer (some ⟨w.heap.size + 1, 0, none⟩)] (enters_of Tryz.func80 (by kernel_rfl) rfl) ((w.alloc (.cells (plc A0 A1 A3 l.length c0 n1 c1 n3 c3) 86)).alloc (.cells #[.string path] 9)) (Kd.C_alloc (Kd.C_alloc hr _) _) (fun j x hx W hb cs hK => by
    obtain ⟨A2, c2, rfl, _, _⟩ := k63_open hK
    exact place_clo _ path _ _ _ W (below_cell hb g1))
  rw [show idxFrom (fun y : Md => y.f1.toList == path.toList) 0 l = placeOf l path from rfl] at hc
  generalize placeOf l path = z at hc ⊢
  generalize l.length = n at *
  clear hr g1 hs
  have hmf : ∀ (fn : Fn) (first cap : Array Value) (w : World), (Instr.makeFunc fn first cap).run Tryz.prog w = .ok (.func fn first cap) w := fun _ _ _ _ => rfl
  go_enter Tryz.func42, Tryz.ntmps42
  go_wp2_with (go_at_call 72; refine hc.mono ?_; rintro e w2 ⟨rfl, hb2⟩; have HB := Aside0.mk hb2; clear hb2)
  go_ret
  exact ⟨rfl, below_step (below_alloc (below_alloc (Below.refl _ _) _) _) HB.out⟩
theorem level_clo (B : Nat) (path s : ByteArray) (n : Int) (W : World) (h : W.cell? ⟨B, 0, none⟩ = some (.string path)) :
    Calls Tryz.prog 141 #[.agg #[.string s, .int .i64 n], .pointer (some ⟨B, 0, none⟩)] W fun e w' => e = .returned (.bool (s.toList == path.toList)) ∧ Below W.heap.size W w' := by
  have hlt : B < W.heap.size := World.block_lt_of_cell? W _ h
  have h2 : ∀ o, (W.alloc o).cell? ⟨B, 0, none⟩ = some (.string path) := fun o => (World.cell?_alloc_old W o _ (show B ≠ W.heap.size by omega)).trans h
  clear hlt
  go_enter Tryz.func141, Tryz.ntmps141
  go_wp2
  go_ret
  exact ⟨rfl, by repeat (first | exact Below.refl _ _ | apply below_alloc | apply pw_below_drewN | apply below_drew1)⟩
theorem lev_cases (p : ByteArray) : ∀ (ws : List Wt) (k : Nat), (idxFrom (fun y : Wt => y.f0.toList == p.toList) k ws = -1 ∧ levOf ws p = 1) ∨ ∃ (i : Nat) (x : Wt), ws[i]? = some x ∧ idxFrom (fun y : Wt => y.f0.toList == p.toList) k ws = ((k + i : Nat) : Int) ∧ levOf ws p = x.f1
  | [], k => .inl ⟨rfl, rfl⟩
  | x :: ws, k => by
    unfold idxFrom levOf
    rw [List.find?_cons, tl_eq]
    by_cases h : x.f0 = p
    · refine .inr ⟨0, x, rfl, by simp [h], by simp [h]⟩
    · rw [if_neg (by simpa using h)]
      simp only [decide_eq_false h]
      rcases lev_cases p ws (k + 1) with ⟨h1, h2⟩ | ⟨i, y, h1, h2, h3⟩
      · exact .inl ⟨h1, h2⟩
      · exact .inr ⟨i + 1, y, by simpa using h1, by rw [h2]; congr 1; omega, h3⟩
set_option maxHeartbeats 1000000 in
theorem level_calls (A0 A1 A3 : Option Addr) (n0 c0 n1 c1 c3 : Nat) (ws : List Wt) (path : ByteArray) (w : World) (hr : Kd.C k72 w A3 ws.length ws) :
    Calls Tryz.prog 115 #[.agg (plc A0 A1 A3 n0 c0 n1 c1 ws.length c3), .string path] w fun e w' => e = .returned (.int .i64 (levOf ws path)) ∧ Below w.heap.size w w' := by
  have hs : (w.alloc (.cells (plc A0 A1 A3 n0 c0 n1 c1 ws.length c3) 86)).heap.size = w.heap.size + 1 := by simp
  have p0 := cell_new w (plc A0 A1 A3 n0 c0 n1 c1 ws.length c3) 86 2 _ rfl
  have g1 := cell_new (w.alloc (.cells (plc A0 A1 A3 n0 c0 n1 c1 ws.length c3) 86)) #[.string path] 9 0 _ rfl
  rw [hs] at g1
  have p1 := below_cell (below_alloc (Below.refl _ _) (.cells #[.string path] 9)) p0
  have hc := IndexFunc_Want A3 c3 ws (fun y => y.f0.toList == path.toList) 141 #[.pointer (some ⟨w.heap.size + 1, 0, none⟩)] (enters_of Tryz.func141 (by kernel_rfl) rfl) ((w.alloc (.cells (plc A0 A1 A3 n0 c0 n1 c1 ws.length c3) 86)).alloc (.cells #[.string path] 9)) (Kd.C_alloc (Kd.C_alloc hr _) _) (fun j x hx W hb cs hK => by
    obtain rfl := k72_open hK
    exact level_clo _ path _ _ W (below_cell hb g1))
  have hmf : ∀ (fn : Fn) (first cap : Array Value) (w : World), (Instr.makeFunc fn first cap).run Tryz.prog w = .ok (.func fn first cap) w := fun _ _ _ _ => rfl
  have HRR := Aside0.mk (fun W (hb : Below w.heap.size w W) => Kd.C_below hr hb)
  have hbase := Aside0.mk (below_alloc (below_alloc (Below.refl w.heap.size w) (.cells (plc A0 A1 A3 n0 c0 n1 c1 ws.length c3) 86)) (.cells #[.string path] 9))
  rcases lev_cases path ws 0 with ⟨h1, h2⟩ | ⟨i, x, hx, h1, h2⟩
  · rw [h1] at hc
    rw [h2]
    generalize ws.length = n at *
    clear hr g1 hs h1 h2 p0 p1
    go_enter Tryz.func115, Tryz.ntmps115
    go_wp2_with (go_at_call 113; refine hc.mono ?_; rintro e w2 ⟨rfl, hb2⟩; have HB := Aside0.mk hb2; clear hb2)
    go_ret
    exact ⟨rfl, below_step hbase.out HB.out⟩
  · rw [Nat.zero_add] at h1
    rw [h1] at hc
    have hi := (List.getElem?_eq_some_iff.1 hx).1
    have hat := fun W (hb : Below w.heap.size w W) => at_T72 (HRR.out W hb) (i : Int) (by omega) (by omega)
    have hxe : rd_T72 ws (i : Int) = x := by
      unfold rd_T72
      rw [Int.toNat_natCast, List.getD_eq_getElem?_getD, hx]; rfl
    rw [hxe, Int.toNat_natCast] at hat
    have hiz : (i : Int) < (ws.length : Int) := by omega
    have HAT := Aside0.mk hat
    clear hat
    rw [h2]
    generalize ws.length = n at *
    clear hr g1 hs h1 h2 p0 hx hxe HRR
    go_enter Tryz.func115, Tryz.ntmps115
    go_wp2_with (go_at_call 113; refine hc.mono ?_; rintro e w2 ⟨rfl, hb2⟩; have p2 := below_cell hb2 p1; obtain ⟨ad, hA, u0, u1⟩ := HAT.out w2 (below_step hbase.out hb2); subst hA; have HB := Aside0.mk hb2; clear hb2)
    go_ret
    exact ⟨rfl, below_step hbase.out HB.out⟩
theorem check_clo (B : Nat) (path s : ByteArray) (n : Int) (W : World) (h : W.cell? ⟨B, 0, none⟩ = some (.string path)) :
    Calls Tryz.prog 79 #[.agg #[.string s, .int .i64 n], .pointer (some ⟨B, 0, none⟩)] W fun e w' => e = .returned (.bool (s.toList == path.toList)) ∧ Below W.heap.size W w' := by
  have hlt : B < W.heap.size := World.block_lt_of_cell? W _ h
  have h2 : ∀ o, (W.alloc o).cell? ⟨B, 0, none⟩ = some (.string path) := fun o => (World.cell?_alloc_old W o _ (show B ≠ W.heap.size by omega)).trans h
  clear hlt
  go_enter Tryz.func79, Tryz.ntmps79
  go_wp2
  go_ret
  exact ⟨rfl, by repeat (first | exact Below.refl _ _ | apply below_alloc | apply pw_below_drewN | apply below_drew1)⟩
theorem any_eq (l : List Wt) (p : ByteArray) : (l.any fun y => y.f0.toList == p.toList) = l.any fun y => decide (y.f0 = p) := by
  congr 1; funext y; exact tl_eq _ _
set_option maxHeartbeats 2000000 in
theorem check_calls (A0 A1 A3 : Option Addr) (c0 n1 c1 c3 : Nat) (l : List Md) (ws : List Wt) (i : Nat) (x : Wt) (w : World) (hr : Kd.C k63 w A0 l.length l) (hw : Kd.C k72 w A3 ws.length ws) (hc3 : ws.length ≤ c3) (hx : ws[i]? = some x) :
    Calls Tryz.prog 41 #[.agg (plc A0 A1 A3 l.length c0 n1 c1 ws.length c3), .int .i64 i] w fun e w' => e = .returned (.int .i64 (wantBad l ws i x)) ∧ Below w.heap.size w w' := by
  have hi := (List.getElem?_eq_some_iff.1 hx).1
  have hiz : (i : Int) < (ws.length : Int) := by omega
  obtain ⟨W1, hW1⟩ : ∃ W1, w.alloc (.cells (plc A0 A1 A3 l.length c0 n1 c1 ws.length c3) 86) = W1 := ⟨_, rfl⟩
  have hs1 : W1.heap.size = w.heap.size + 1 := by rw [← hW1]; simp
  obtain ⟨W2, hW2⟩ : ∃ W2, W1.alloc (.cells #[.string x.f0, .int .i64 x.f1] 72) = W2 := ⟨_, rfl⟩
  have p0 : W1.cell? ⟨w.heap.size, 0, none⟩ = some (.slice A0 l.length c0) := by rw [← hW1]; exact cell_new w _ _ 0 _ rfl
  have p1 : W1.cell? ⟨w.heap.size, 1, none⟩ = some (.slice A1 n1 c1) := by rw [← hW1]; exact cell_new w _ _ 1 _ rfl
  have p2 : W1.cell? ⟨w.heap.size, 2, none⟩ = some (.slice A3 ws.length c3) := by rw [← hW1]; exact cell_new w _ _ 2 _ rfl
  have hb12 : Below W1.heap.size W1 W2 := by rw [← hW2]; exact below_alloc (Below.refl _ _) _
  have hb2 : Below w.heap.size w W2 := by rw [← hW2, ← hW1]; exact below_alloc (below_alloc (Below.refl _ _) _) _
  have x0 : W2.cell? ⟨w.heap.size + 1, 0, none⟩ = some (.string x.f0) := by rw [← hW2, ← hs1]; exact cell_new W1 _ _ 0 _ rfl
  have x1 : W2.cell? ⟨w.heap.size + 1, 1, none⟩ = some (.int .i64 x.f1) := by rw [← hW2, ← hs1]; exact cell_new W1 _ _ 1 _ rfl
  have hpl := place_calls A0 A1 A3 c0 n1 c1 ws.length c3 l x.f0 W2 (Kd.C_below hr hb2)
  have hlv := fun W => levels_calls x.f1 W
  have hcf := fun (W : World) (hb : Below W2.heap.size W2 W) => ContainsFunc_Want A3 c3 (ws.take i) (fun y => y.f0.toList == x.f0.toList) 79 #[.pointer (some ⟨w.heap.size + 1, 0, none⟩)] (enters_of Tryz.func79 (by kernel_rfl) rfl) W (Kd.C_take (Kd.C_below hw (below_step hb2 hb)) (by omega)) (fun j y hy W' hb' cs hK => by
    obtain rfl := k72_open hK
    exact check_clo _ x.f0 _ _ W' (below_cell hb' (below_cell hb x0)))
  rw [List.length_take, Nat.min_eq_left (by omega), any_eq] at hcf
  obtain ⟨ad, hA, u0, u1⟩ := at_T72 (Kd.C_below hw (show Below w.heap.size w W1 by rw [← hW1]; exact below_alloc (Below.refl _ _) _)) (i : Int) (by omega) (by omega)
  have hxe : rd_T72 ws (i : Int) = x := by
    unfold rd_T72
    rw [Int.toNat_natCast, List.getD_eq_getElem?_getD, hx]; rfl
  rw [hxe, Int.toNat_natCast] at u0 u1
  subst hA
  have q0 := below_cell hb12 p0
  have q1 := below_cell hb12 p1
  have q2 := below_cell hb12 p2
  unfold wantBad
  have HLV := Aside0.mk hlv
  have HCF := Aside0.mk hcf
  have HB2 := Aside0.mk hb2
  have HX := Aside0.mk (show ∀ W, Below W2.heap.size W2 W → W.cell? ⟨w.heap.size + 1, 0, none⟩ = some (.string x.f0) ∧ W.cell? ⟨w.heap.size + 1, 1, none⟩ = some (.int .i64 x.f1) ∧ W.cell? ⟨w.heap.size, 2, none⟩ = some (.slice (some ad) ws.length c3) from fun W hb => ⟨below_cell hb x0, below_cell hb x1, below_cell hb q2⟩)
  generalize placeOf l x.f0 = z at hpl ⊢
  generalize lvlOk x.f1 = bl at hlv HLV ⊢
  generalize ((ws.take i).any fun y => decide (y.f0 = x.f0)) = bt at hcf HCF ⊢
  have hi3 : (i : Int) ≤ (c3 : Int) := by omega
  generalize ws.length = n3 at *
  generalize l.length = n0 at *
  clear hr hw hx hxe hlv hcf hb12 hb2
  have hmf : ∀ (fn : Fn) (first cap : Array Value) (w : World), (Instr.makeFunc fn first cap).run Tryz.prog w = .ok (.func fn first cap) w := fun _ _ _ _ => rfl
  subst hW2
  subst hW1
  by_cases hz : z < 0
  · rw [if_pos hz]
    go_enter Tryz.func41, Tryz.ntmps41
    go_wp2_with (first | (go_at_call 42; refine hpl.mono ?_; rintro e w3 ⟨rfl, hb3⟩; obtain ⟨y0, y1, y2⟩ := HX.out w3 hb3; have HB3 := Aside0.mk hb3; clear hb3 x0 x1 q0 q1 q2))
    go_ret
    exact ⟨rfl, below_step HB2.out HB3.out⟩
  · rw [if_neg hz]
    cases bl with
    | false =>
      rw [if_neg (by simp)]
      go_enter Tryz.func41, Tryz.ntmps41
      go_wp2_with (first | (go_at_call 42; refine hpl.mono ?_; rintro e w3 ⟨rfl, hb3⟩; obtain ⟨y0, y1, y2⟩ := HX.out w3 hb3; have HB3 := Aside0.mk hb3; clear hb3 x0 x1 q0 q1 q2) | (go_at_call 29; refine (HLV.out w3).mono ?_; rintro e w4 ⟨rfl, hb4⟩; have HB4 := Aside0.mk (below_step HB3.out hb4); clear y0 y1 y2; obtain ⟨y0, y1, y2⟩ := HX.out w4 HB4.out; clear hb4))
      go_ret
      exact ⟨rfl, below_step HB2.out HB4.out⟩
    | true =>
      rw [if_pos rfl]
      cases bt with
      | true =>
        rw [if_pos rfl]
        go_enter Tryz.func41, Tryz.ntmps41
        go_wp2_with (first | (go_at_call 42; refine hpl.mono ?_; rintro e w3 ⟨rfl, hb3⟩; obtain ⟨y0, y1, y2⟩ := HX.out w3 hb3; have HB3 := Aside0.mk hb3; clear hb3 x0 x1 q0 q1 q2) | (go_at_call 29; refine (HLV.out w3).mono ?_; rintro e w4 ⟨rfl, hb4⟩; have HB4 := Aside0.mk (below_step HB3.out hb4); clear y0 y1 y2; obtain ⟨y0, y1, y2⟩ := HX.out w4 HB4.out; clear hb4) | (go_at_call 78; refine (HCF.out w4 HB4.out).mono ?_; rintro e w5 ⟨rfl, hb5⟩; have HB5 := Aside0.mk (below_step HB4.out hb5); clear hb5))
        go_ret
        exact ⟨rfl, below_step HB2.out HB5.out⟩
      | false =>
        rw [if_neg (by simp)]
        go_enter Tryz.func41, Tryz.ntmps41
        go_wp2_with (first | (go_at_call 42; refine hpl.mono ?_; rintro e w3 ⟨rfl, hb3⟩; obtain ⟨y0, y1, y2⟩ := HX.out w3 hb3; have HB3 := Aside0.mk hb3; clear hb3 x0 x1 q0 q1 q2) | (go_at_call 29; refine (HLV.out w3).mono ?_; rintro e w4 ⟨rfl, hb4⟩; have HB4 := Aside0.mk (below_step HB3.out hb4); clear y0 y1 y2; obtain ⟨y0, y1, y2⟩ := HX.out w4 HB4.out; clear hb4) | (go_at_call 78; refine (HCF.out w4 HB4.out).mono ?_; rintro e w5 ⟨rfl, hb5⟩; have HB5 := Aside0.mk (below_step HB4.out hb5); clear hb5))
        go_ret
        exact ⟨rfl, below_step HB2.out HB5.out⟩
end Go.Proofs.YtillhaipemengaaGreatDoor
end
