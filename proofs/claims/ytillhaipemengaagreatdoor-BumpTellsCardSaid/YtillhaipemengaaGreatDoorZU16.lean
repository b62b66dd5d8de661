/- The texts BpPl, BpRel in one file, without what these claims do not use (put together by prune2.py). -/
import Derived.Test.YtillhaipemengaaGreatDoorZU9
import Derived.Test.YtillhaipemengaaGreatDoorZU11
import Derived.Test.YtillhaipemengaaGreatDoorZU15
section
namespace Go.Proofs.YtillhaipemengaaGreatDoor
open Go Go.RowKit Go.Proofs.YtillhaipemengaaGreatDoorW.PrintWords Go.Proofs.YtillhaipemengaaGreatDoor.K0 Go.Proofs.YtillhaipemengaaGreatDoor.R1
set_option linter.unusedVariables false
set_option linter.unusedSimpArgs false
abbrev Tg := S71
abbrev Vr := S26
abbrev Md := S63
abbrev Rq := S69
abbrev Wt := S72
abbrev Rl := S30
def vcmp (x y : Vr) : Int := verCmp x.f0 x.f1 x.f2 x.f3 x.f4 y.f0 y.f1 y.f2 y.f3 y.f4
def vok (v : Vr) : Bool := verOk v.f0 v.f1 v.f2 v.f3 v.f4
def vfits (p : ByteArray) (v : Vr) : Bool := fitsOk p v.f0 v.f1 v.f2 v.f3 v.f4
/-- The latest one of a path. -/
def latFrom (p : ByteArray) (b : Option Tg) : List Tg → Option Tg
  | [] => b
  | x :: l => latFrom p (if x.f0 = p then (match b with | none => some x | some y => if 0 < vcmp x.f1 y.f1 then some x else some y) else b) l
def latT (l : List Tg) (p : ByteArray) : Option Tg := latFrom p none l
def zv : Vr := ⟨0, 0, 0, ⟨#[]⟩, ⟨#[]⟩⟩
def zr : Rl := ⟨0, false, zv, zv, 0⟩
def plainV (a b c : Int) : Vr := ⟨a, b, c, ⟨#[]⟩, ⟨#[]⟩⟩
def lvlOk (n : Int) : Bool := decide (1 ≤ n) && decide (n ≤ 3)
def firstOf (p : ByteArray) : Vr × Bool :=
  if (majorsOf p).2.2 = true then (if (majorsOf p).2.1 = 0 then (plainV 0 1 0, true) else (plainV (majorsOf p).2.1 0 0, true)) else (zv, false)
def upV (a b c l : Int) : Vr × Int :=
  if l = 1 ∧ c < 999999999 then (plainV a b (c + 1), 0)
  else if l ≤ 2 ∧ b < 999999999 then (plainV a (b + 1) 0, 0)
  else if a < 999999999 then (plainV (a + 1) 0 0, 0) else (zv, 15)
def bumpOf (v : Vr) (l : Int) : Vr × Int :=
  if vok v = true then
    if lvlOk l = true then
      if v.f3.size ≠ 0 ∧ (l < 2 ∨ v.f2 = 0) ∧ (l < 3 ∨ v.f1 = 0) then (plainV v.f0 v.f1 v.f2, 0) else upV v.f0 v.f1 v.f2 l
    else (zv, 1)
  else (zv, 1)
def bNext (p : ByteArray) (l : List Tg) (n : Int) : Rl × Int :=
  if (firstOf p).2 = true then
    if lvlOk n = true then
      match latT l p with
      | none => (⟨0, false, zv, (firstOf p).1, n⟩, 0)
      | some t =>
        if vok t.f1 = true then
          if (bumpOf t.f1 n).2 = 0 then
            if vfits p (bumpOf t.f1 n).1 = true then (⟨0, true, t.f1, (bumpOf t.f1 n).1, n⟩, 0) else (zr, 8)
          else (zr, (bumpOf t.f1 n).2)
        else (zr, 7)
    else (zr, 1)
  else (zr, 6)
theorem ver_plain {a b c : Int} : vok (plainV a b c) = (numB a && (numB b && numB c)) := by
  unfold vok plainV verOk
  have h1 : decide ((⟨#[]⟩ : ByteArray).size ≤ 30) = true := by decide
  have h2 : preOk ⟨#[]⟩ = true := by unfold preOk; rfl
  have h3 : buildOk ⟨#[]⟩ = true := by unfold buildOk; rfl
  simp only [h1, h2, h3, Bool.and_true]
theorem numB_iff {z : Int} : numB z = true ↔ 0 ≤ z ∧ z ≤ 999999999 := by unfold numB; simp
theorem vok_nums {v : Vr} (h : vok v = true) : (0 ≤ v.f0 ∧ v.f0 ≤ 999999999) ∧ (0 ≤ v.f1 ∧ v.f1 ≤ 999999999) ∧ (0 ≤ v.f2 ∧ v.f2 ≤ 999999999) := by
  unfold vok verOk at h
  simp only [Bool.and_eq_true] at h
  exact ⟨numB_iff.1 h.1, numB_iff.1 h.2.1, numB_iff.1 h.2.2.1⟩
theorem ci_lt {x y : Int} (h : x < y) : Lib.compareInt x y = -1 := by unfold Lib.compareInt; rw [if_pos h]
theorem orr_lt (y : Int) : orr (-1) y = -1 := rfl
theorem orr_z (y : Int) : orr 0 y = y := rfl
theorem ci_self (x : Int) : Lib.compareInt x x = 0 := (ci_eq x x).2 rfl
theorem vcmp_of {v u : Vr} (h : vok v = true) (h2 : vok u = true) : vcmp v u = orr (Lib.compareInt v.f0 u.f0) (orr (Lib.compareInt v.f1 u.f1) (orr (Lib.compareInt v.f2 u.f2) (preCmp v.f3.data.toList u.f3.data.toList))) := by
  unfold vcmp verCmp
  rw [show verOk v.f0 v.f1 v.f2 v.f3 v.f4 = true from h, if_pos rfl, show verOk u.f0 u.f1 u.f2 u.f3 u.f4 = true from h2, if_pos rfl]
theorem bump_up {v u : Vr} {l : Int} (h : bumpOf v l = (u, 0)) : vok v = true ∧ vok u = true ∧ vcmp v u = -1 := by
  unfold bumpOf at h
  split at h
  case isFalse => cases h
  rename_i hv
  obtain ⟨⟨a0, a9⟩, ⟨b0, b9⟩, c0, c9⟩ := vok_nums hv
  split at h
  case isFalse => cases h
  refine ⟨hv, ?_⟩
  split at h
  · rename_i hp
    have := (Prod.mk.inj h).1
    subst this
    have hu : vok (plainV v.f0 v.f1 v.f2) = true := by
      rw [ver_plain, Bool.and_eq_true, Bool.and_eq_true]
      exact ⟨numB_iff.2 ⟨a0, a9⟩, numB_iff.2 ⟨b0, b9⟩, numB_iff.2 ⟨c0, c9⟩⟩
    refine ⟨hu, ?_⟩
    rw [vcmp_of hv hu]
    show orr (Lib.compareInt v.f0 v.f0) (orr (Lib.compareInt v.f1 v.f1) (orr (Lib.compareInt v.f2 v.f2) (preCmp v.f3.data.toList []))) = -1
    rw [ci_self, ci_self, ci_self, orr_z, orr_z, orr_z]
    unfold preCmp
    rw [if_neg, if_pos rfl]
    intro e
    exact hp.1 (by rw [Lib.size_eq, e]; rfl)
  · unfold upV at h
    split at h
    · rename_i hp
      have := (Prod.mk.inj h).1
      subst this
      have hu : vok (plainV v.f0 v.f1 (v.f2 + 1)) = true := by
        rw [ver_plain, Bool.and_eq_true, Bool.and_eq_true]
        exact ⟨numB_iff.2 ⟨a0, a9⟩, numB_iff.2 ⟨b0, b9⟩, numB_iff.2 ⟨by omega, by omega⟩⟩
      refine ⟨hu, ?_⟩
      rw [vcmp_of hv hu]
      show orr (Lib.compareInt v.f0 v.f0) (orr (Lib.compareInt v.f1 v.f1) (orr (Lib.compareInt v.f2 (v.f2 + 1)) _)) = -1
      rw [ci_self, ci_self, ci_lt (by omega), orr_z, orr_z, orr_lt]
    · split at h
      · rename_i hp
        have := (Prod.mk.inj h).1
        subst this
        have hu : vok (plainV v.f0 (v.f1 + 1) 0) = true := by
          rw [ver_plain, Bool.and_eq_true, Bool.and_eq_true]
          exact ⟨numB_iff.2 ⟨a0, a9⟩, numB_iff.2 ⟨by omega, by omega⟩, numB_iff.2 ⟨by omega, by omega⟩⟩
        refine ⟨hu, ?_⟩
        rw [vcmp_of hv hu]
        show orr (Lib.compareInt v.f0 v.f0) (orr (Lib.compareInt v.f1 (v.f1 + 1)) _) = -1
        rw [ci_self, ci_lt (by omega), orr_z, orr_lt]
      · split at h
        · rename_i hp
          have := (Prod.mk.inj h).1
          subst this
          have hu : vok (plainV (v.f0 + 1) 0 0) = true := by
            rw [ver_plain, Bool.and_eq_true, Bool.and_eq_true]
            exact ⟨numB_iff.2 ⟨by omega, by omega⟩, numB_iff.2 ⟨by omega, by omega⟩, numB_iff.2 ⟨by omega, by omega⟩⟩
          refine ⟨hu, ?_⟩
          rw [vcmp_of hv hu]
          show orr (Lib.compareInt v.f0 (v.f0 + 1)) _ = -1
          rw [ci_lt (by omega), orr_lt]
        · cases h
theorem num_small {l : List UInt8} (h : tellsOk l = true) : numOf l ≤ 999999999 := by
  unfold tellsOk at h
  rw [Bool.and_eq_true] at h
  have hv := val_lt _ h.2
  rw [List.length_drop] at hv
  unfold numOf
  split
  · decide
  · rename_i h1
    have : 10 ^ (l.length - 1) ≤ 10 ^ 9 := Nat.pow_le_pow_right (by decide) (by omega)
    split
    · decide
    · split
      · decide
      · omega
/-- A first version fits its path. -/
theorem first_fits {p : ByteArray} (h : (firstOf p).2 = true) : vfits p (firstOf p).1 = true := by
  unfold firstOf at h ⊢
  split at h
  case isFalse => cases h
  rename_i h2
  rw [if_pos h2]
  have hm : 0 ≤ (majorsOf p).2.1 ∧ (majorsOf p).2.1 ≤ 999999999 := by
    unfold majorsOf
    split
    · split
      · rename_i ht
        exact ⟨numOf_nonneg _, num_small ht⟩
      · exact ⟨Int.le_refl _, show (0 : Int) ≤ 999999999 by decide⟩
    · exact ⟨Int.le_refl _, show (0 : Int) ≤ 999999999 by decide⟩
  split
  · rename_i h3
    unfold vfits fitsOk
    rw [if_pos h2, show verOk (plainV 0 1 0).f0 (plainV 0 1 0).f1 (plainV 0 1 0).f2 (plainV 0 1 0).f3 (plainV 0 1 0).f4 = true from by rw [show verOk _ _ _ _ _ = vok (plainV 0 1 0) from rfl, ver_plain]; rfl, if_pos rfl, if_pos h3]
    rfl
  · rename_i h3
    unfold vfits fitsOk
    rw [if_pos h2, show verOk (plainV (majorsOf p).2.1 0 0).f0 (plainV (majorsOf p).2.1 0 0).f1 (plainV (majorsOf p).2.1 0 0).f2 (plainV (majorsOf p).2.1 0 0).f3 (plainV (majorsOf p).2.1 0 0).f4 = true from by
      rw [show verOk _ _ _ _ _ = vok (plainV (majorsOf p).2.1 0 0) from rfl, ver_plain, Bool.and_eq_true]
      exact ⟨numB_iff.2 hm, rfl⟩, if_pos rfl, if_neg h3]
    exact beq_self_eq_true _
/-- What a next version is. -/
theorem next_ok {p : ByteArray} {l : List Tg} {n : Int} {r : Rl} (h : bNext p l n = (r, 0)) : r.f0 = 0 ∧ r.f4 = n ∧ vfits p r.f3 = true ∧ (r.f1 = true → vcmp r.f2 r.f3 = -1) := by
  unfold bNext at h
  split at h
  case isFalse => cases h
  rename_i h1
  split at h
  case isFalse => cases h
  split at h
  · obtain rfl := (Prod.mk.inj h).1
    exact ⟨rfl, rfl, first_fits h1, fun e => by cases e⟩
  · split at h
    case isFalse => cases h
    rename_i t ht hv
    split at h
    case isFalse h3 => exact absurd (Prod.mk.inj h).2 h3
    rename_i h3
    split at h
    case isFalse => cases h
    rename_i hf
    obtain rfl := (Prod.mk.inj h).1
    refine ⟨rfl, rfl, hf, fun _ => ?_⟩
    exact (bump_up (u := (bumpOf t.f1 n).1) (Prod.ext rfl h3)).2.2
end Go.Proofs.YtillhaipemengaaGreatDoor
end

section
namespace Go.Proofs.YtillhaipemengaaGreatDoor
open Go Go.RowKit Go.Proofs.YtillhaipemengaaGreatDoorW.PrintWords Go.Proofs.YtillhaipemengaaGreatDoor.K0 Go.Proofs.YtillhaipemengaaGreatDoor.R1
set_option linter.unusedVariables false
set_option linter.unusedSimpArgs false
theorem tl_eq (a b : ByteArray) : (a.toList == b.toList) = decide (a = b) := by
  rw [ByteArray.toList_eq, ByteArray.toList_eq, Bool.eq_iff_iff, beq_iff_eq, decide_eq_true_eq]
  exact ⟨fun h => by_data h, fun h => by rw [h]⟩
/-- Why a want may not be. -/
def wantBad (l : List Md) (ws : List Wt) (i : Nat) (w : Wt) : Int :=
  if placeOf l w.f0 < 0 then 5 else if lvlOk w.f1 = true then (if (ws.take i).any (fun x => decide (x.f0 = w.f0)) = true then 11 else 0) else 1
def wantGo (l : List Md) (ws : List Wt) : Nat → List Wt → List Int → List Int × Int
  | _, [], fr => (fr, 0)
  | i, w :: t, fr => if wantBad l ws i w = 0 then wantGo l ws (i + 1) t (fr ++ [placeOf l w.f0]) else ([], wantBad l ws i w)
def levOf (ws : List Wt) (p : ByteArray) : Int :=
  match ws.find? (fun w => decide (w.f0 = p)) with
  | some w => w.f1
  | none => 1
def relAt (l : List Md) (tg : List Tg) (ws : List Wt) (z : Int) : Rl × Int :=
  match l[z.toNat]? with
  | some m => if (bNext m.f1 tg (levOf ws m.f1)).2 = 0 then (⟨z, (bNext m.f1 tg (levOf ws m.f1)).1.f1, (bNext m.f1 tg (levOf ws m.f1)).1.f2, (bNext m.f1 tg (levOf ws m.f1)).1.f3, (bNext m.f1 tg (levOf ws m.f1)).1.f4⟩, 0) else bNext m.f1 tg (levOf ws m.f1)
  | none => (zr, 6)
def relGo (f : Int → Rl × Int) : List Int → List Rl → List Rl × Int
  | [], acc => (acc, 0)
  | z :: t, acc => if (f z).2 = 0 then relGo f t (acc ++ [(f z).1]) else ([], (f z).2)
def upsOf (l : List Md) (ch : List Int) (ws : List Wt) : List Int := upG l (wantGo l ws 0 ws ch).1
def relOf (l : List Md) (tg : List Tg) (ch : List Int) (ws : List Wt) : List Rl × Int :=
  if (ordG l).2 = 0 then
    if (wantGo l ws 0 ws ch).2 = 0 then relGo (relAt l tg ws) ((ordG l).1.filter fun z => (upsOf l ch ws).contains z) []
    else ([], (wantGo l ws 0 ws ch).2)
  else ([], (ordG l).2)
def zm : Md := ⟨⟨#[]⟩, ⟨#[]⟩, []⟩
/-- Is a release that of a path? -/
def hit (l : List Md) (p : ByteArray) (r : Rl) : Bool := decide (0 ≤ r.f0) && (decide (r.f0 < (l.length : Int)) && decide ((l.getD r.f0.toNat zm).f1 = p))
def editGo (l : List Md) (rs : List Rl) : List Rq → List Rq
  | [] => []
  | q :: t => (match rs.find? (hit l q.f0) with | some r => [⟨q.f0, r.f3⟩] | none => []) ++ editGo l rs t
def editsOf (l : List Md) (rs : List Rl) (at_ : Int) : List Rq :=
  if 0 ≤ at_ then (if at_ < (l.length : Int) then editGo l rs (l.getD at_.toNat zm).f2 else []) else []
theorem relGo_all {f : Int → Rl × Int} : ∀ {zs : List Int} {acc : List Rl}, (∀ z ∈ zs, (f z).2 = 0) → relGo f zs acc = (acc ++ zs.map (fun z => (f z).1), 0)
  | [], acc, h => by simp [relGo]
  | z :: t, acc, h => by
    unfold relGo
    rw [if_pos (h z List.mem_cons_self), relGo_all fun y hy => h y (List.mem_cons_of_mem _ hy), List.map_cons, List.append_assoc]
    rfl
theorem edgy (l : List Md) : Edgy (edgesOf l) l.length := ⟨fun i z hz => edgesOf_nn l i z hz⟩
/-- What an order of modules is that may be. -/
theorem ord_ok {l : List Md} (h : (ordG l).2 = 0) : gcheck l = 0 ∧ l.length ≤ 12 ∧ OrdOk (edgesOf l) l.length (ordG l).1 ∧ (ordG l).1.length = l.length := by
  unfold ordG at h ⊢
  split at h
  · rename_i h0
    rw [if_pos h0]
    rcases orderOf_cases (edgy l) with ⟨o, e, ho, hlen, hac⟩ | ⟨e, i, hi, hr⟩
    · rw [e]
      exact ⟨h0, gcheck_len h0, ho, hlen⟩
    · rw [e] at h
      cases h
  · rename_i h0
    exact absurd h h0
theorem ord_mem {l : List Md} (h : (ordG l).2 = 0) {z : Int} : z ∈ (ordG l).1 ↔ 0 ≤ z ∧ z.toNat < l.length := by
  obtain ⟨h0, h12, ho, hlen⟩ := ord_ok h
  constructor
  · exact ho.sub z
  · rintro ⟨h1, h2⟩
    have := nodup_full ho.nodup ho.sub (by omega) z.toNat h2
    rwa [Int.toNat_of_nonneg h1] at this
/-- What releases are that may be. -/
structure RelIs (l : List Md) (tg : List Tg) (ch : List Int) (ws : List Wt) (rs : List Rl) : Prop where
  ord : (ordG l).2 = 0
  want : (wantGo l ws 0 ws ch).2 = 0
  list : rs = ((ordG l).1.filter fun z => (upsOf l ch ws).contains z).map (fun z => (relAt l tg ws z).1)
  good : ∀ z ∈ (ordG l).1.filter fun z => (upsOf l ch ws).contains z, (relAt l tg ws z).2 = 0
theorem relAt_at {l : List Md} {tg : List Tg} {ws : List Wt} {z : Int} (h : (relAt l tg ws z).2 = 0) : (relAt l tg ws z).1.f0 = z ∧ ∃ m, l[z.toNat]? = some m ∧ vfits m.f1 (relAt l tg ws z).1.f3 = true ∧ ((relAt l tg ws z).1.f1 = true → vcmp (relAt l tg ws z).1.f2 (relAt l tg ws z).1.f3 = -1) := by
  unfold relAt at h ⊢
  split
  · rename_i m hm
    rw [hm] at h
    simp only at h
    by_cases hz : (bNext m.f1 tg (levOf ws m.f1)).2 = 0
    · rw [if_pos hz]
      obtain ⟨_, _, h3, h4⟩ := next_ok (r := (bNext m.f1 tg (levOf ws m.f1)).1) (Prod.ext rfl hz)
      exact ⟨rfl, m, hm, h3, h4⟩
    · rw [if_neg hz] at h
      exact absurd h hz
  · rename_i hm
    rw [hm] at h
    cases h
/-- The places of those who are released. -/
theorem RelIs.ats {l : List Md} {tg : List Tg} {ch : List Int} {ws : List Wt} {rs : List Rl} (h : RelIs l tg ch ws rs) : rs.map (·.f0) = (ordG l).1.filter fun z => (upsOf l ch ws).contains z := by
  rw [h.list, List.map_map]
  refine (List.map_congr_left (g := id) fun z hz => ?_).trans (List.map_id _)
  exact (relAt_at (h.good z hz)).1
theorem RelIs.mem {l : List Md} {tg : List Tg} {ch : List Int} {ws : List Wt} {rs : List Rl} (h : RelIs l tg ch ws rs) {z : Int} : z ∈ rs.map (·.f0) ↔ z ∈ upsOf l ch ws := by
  obtain ⟨h0, h12, _, _⟩ := ord_ok h.ord
  rw [h.ats, List.mem_filter, List.contains_iff_mem]
  constructor
  · exact fun h => h.2
  · intro hz
    refine ⟨(ord_mem h.ord).2 ?_, hz⟩
    unfold upsOf upG at hz
    rw [if_pos h0] at hz
    obtain ⟨h1, h2, _⟩ := (mem_upOf (edgy l) h12).1 hz
    exact ⟨h1, h2⟩
theorem RelIs.nodup {l : List Md} {tg : List Tg} {ch : List Int} {ws : List Wt} {rs : List Rl} (h : RelIs l tg ch ws rs) : (rs.map (·.f0)).Nodup := by
  obtain ⟨_, _, ho, _⟩ := ord_ok h.ord
  rw [h.ats]
  exact ho.nodup.filter _
/-- Behind whom a module comes. -/
theorem filter_behind {p : Int → Bool} : ∀ {o : List Int} {i : Nat} {z y : Int}, (o.filter p)[i]? = some z → (∀ k, o[k]? = some z → y ∈ o.take k) → p y = true → y ∈ (o.filter p).take i
  | [], i, z, y, h, _, _ => by simp at h
  | x :: o, i, z, y, h, hb, hy => by
    rw [List.filter_cons] at h ⊢
    by_cases hx : p x = true
    · rw [if_pos hx] at h ⊢
      cases i with
      | zero =>
        obtain rfl : x = z := by simpa using h
        have := hb 0 rfl
        simp at this
      | succ i =>
        rw [List.take_succ_cons]
        by_cases e : y = x
        · exact e ▸ List.mem_cons_self
        · refine List.mem_cons_of_mem _ (filter_behind (by simpa using h) (fun k hk => ?_) hy)
          have := hb (k + 1) (by simpa using hk)
          rw [List.take_succ_cons] at this
          rcases List.mem_cons.1 this with h | h
          · exact absurd h e
          · exact h
    · rw [if_neg hx] at h ⊢
      refine filter_behind h (fun k hk => ?_) hy
      have := hb (k + 1) (by simpa using hk)
      rw [List.take_succ_cons] at this
      rcases List.mem_cons.1 this with h | h
      · exact absurd (h ▸ hy) hx
      · exact h
theorem OrdOk.at {E : Nat → List Int} {n : Nat} {o : List Int} (h : OrdOk E n o) : ∀ (k : Nat) (z : Int), o[k]? = some z → z ∉ o.take k ∧ ∀ y ∈ E z.toNat, y ∈ o.take k := by
  induction h with
  | nil => intro k z hk; simp at hk
  | @snoc o w ho h0 h1 hw hy ih =>
    intro k z hk
    by_cases hlt : k < o.length
    · rw [List.getElem?_append_left hlt] at hk
      rw [List.take_append_of_le_length (by omega)]
      exact ih k z hk
    · rw [List.getElem?_append_right (by omega)] at hk
      have hk0 : k - o.length = 0 := by
        have := (List.getElem?_eq_some_iff.1 hk).1
        simp at this; omega
      rw [hk0] at hk
      obtain rfl : w = z := by simpa using hk
      have hke : k = o.length := by omega
      subst hke
      rw [List.take_left]
      exact ⟨hw, hy⟩
theorem RelIs.behind {l : List Md} {tg : List Tg} {ch : List Int} {ws : List Wt} {rs : List Rl} (h : RelIs l tg ch ws rs) {i : Nat} {r : Rl} (hr : rs[i]? = some r) : r.f0 ∉ (rs.map (·.f0)).take i ∧ ∀ y ∈ edgesOf l r.f0.toNat, y ∈ rs.map (·.f0) → y ∈ (rs.map (·.f0)).take i := by
  have hg : (rs.map (·.f0))[i]? = some r.f0 := by rw [List.getElem?_map, hr]; rfl
  constructor
  · intro hm
    obtain ⟨j, hj, e⟩ := List.getElem_of_mem hm
    rw [List.length_take] at hj
    rw [List.getElem_take] at e
    have hi := (List.getElem?_eq_some_iff.1 hg).1
    have := (List.pairwise_iff_getElem.1 h.nodup) j i (by omega) hi (by omega)
    rw [e, (List.getElem?_eq_some_iff.1 hg).2] at this
    exact this rfl
  · intro y hy hm
    have hu := h.mem.1 hm
    obtain ⟨_, _, ho, _⟩ := ord_ok h.ord
    rw [h.ats] at hg ⊢
    exact filter_behind hg (fun k hk => (ho.at k _ hk).2 y hy) (List.contains_iff_mem.2 hu)
/-- The places that wants lay behind. -/
theorem wantGo_ok {l : List Md} {ws : List Wt} : ∀ {t : List Wt} {i : Nat} {fr : List Int}, (wantGo l ws i t fr).2 = 0 → (wantGo l ws i t fr).1 = fr ++ t.map (fun w => placeOf l w.f0) ∧ ∀ w ∈ t, 0 ≤ placeOf l w.f0
  | [], i, fr, h => ⟨by simp [wantGo], fun _ h => by cases h⟩
  | w :: t, i, fr, h => by
    unfold wantGo at h ⊢
    split at h
    · rename_i hz
      rw [if_pos hz]
      obtain ⟨h1, h2⟩ := wantGo_ok h
      refine ⟨by rw [h1, List.map_cons, List.append_assoc]; rfl, fun y hy => ?_⟩
      rcases List.mem_cons.1 hy with rfl | hy
      · unfold wantBad at hz
        split at hz
        · cases hz
        · omega
      · exact h2 y hy
    · rename_i hz
      exact absurd h hz
theorem place_mem {l : List Md} (h : gcheck l = 0) {w : Wt} {i : Nat} {m : Md} (hm : l[i]? = some m) (hp : 0 ≤ placeOf l w.f0) : placeOf l w.f0 = (i : Int) ↔ w.f0 = m.f1 := by
  constructor
  · intro e
    rcases idxFrom_cases (fun y : Md => y.f1.toList == w.f0.toList) l 0 with ⟨k, y, h1, h2, h3, _⟩ | ⟨h2, _⟩
    · unfold placeOf at e
      rw [h3] at e
      have : k = i := by omega
      subst this
      rw [hm] at h1
      obtain rfl := Option.some.inj h1
      rw [tl_eq, decide_eq_true_eq] at h2
      exact h2.symm
    · unfold placeOf at e
      rw [h2] at e; omega
  · intro e
    rw [e]
    exact gcheck_place h i m hm
/-- Who is up: who changed, who is wanted, who requires one who is up. -/
theorem RelIs.who {l : List Md} {tg : List Tg} {ch : List Int} {ws : List Wt} {rs : List Rl} (h : RelIs l tg ch ws rs) {i : Nat} {m : Md} (hm : l[i]? = some m) : (i : Int) ∈ rs.map (·.f0) ↔ (i : Int) ∈ ch ∨ (∃ w ∈ ws, w.f0 = m.f1) ∨ ∃ d ∈ edgesOf l i, d ∈ rs.map (·.f0) := by
  obtain ⟨h0, h12, _, _⟩ := ord_ok h.ord
  obtain ⟨h1, h2⟩ := wantGo_ok h.want
  have hi := (List.getElem?_eq_some_iff.1 hm).1
  have hu : upsOf l ch ws = upOf (edgesOf l) l.length (ch ++ ws.map fun w => placeOf l w.f0) := by unfold upsOf upG; rw [if_pos h0, h1]
  rw [h.mem, hu, up_step (edgy l) h12 hi, List.mem_append, or_assoc]
  refine or_congr Iff.rfl (or_congr ?_ ?_)
  · rw [List.mem_map]
    constructor
    · rintro ⟨w, hw, e⟩
      exact ⟨w, hw, (place_mem h0 hm (h2 w hw)).1 e⟩
    · rintro ⟨w, hw, e⟩
      exact ⟨w, hw, (place_mem h0 hm (h2 w hw)).2 e⟩
  · refine exists_congr fun d => and_congr_right fun _ => ?_
    rw [h.mem, hu]
end Go.Proofs.YtillhaipemengaaGreatDoor
end
