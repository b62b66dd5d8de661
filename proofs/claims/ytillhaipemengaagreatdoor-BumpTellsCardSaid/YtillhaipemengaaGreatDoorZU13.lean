/- The texts Reach, Down in one file, without what these claims do not use (put together by prune2.py). -/
import Derived.Test.YtillhaipemengaaGreatDoorZU12
section
namespace Go.Proofs.YtillhaipemengaaGreatDoor
open Go
set_option linter.unusedVariables false
set_option linter.unusedSimpArgs false
section
variable (E : Nat → List Int)
inductive Reach : Nat → Nat → Prop
  | one {i : Nat} {z : Int} : z ∈ E i → Reach i z.toNat
  | step {i j : Nat} {z : Int} : z ∈ E i → Reach z.toNat j → Reach i j
variable {E}
theorem Reach.trans {a b c : Nat} (h : Reach E a b) (g : Reach E b c) : Reach E a c := by
  induction h with
  | one hz => exact .step hz g
  | step hz _ ih => exact .step hz (ih g)
theorem Reach.last {a b : Nat} (h : Reach E a b) : ∃ c z, z ∈ E c ∧ b = z.toNat ∧ (c = a ∨ Reach E a c) := by
  induction h with
  | one hz => exact ⟨_, _, hz, rfl, .inl rfl⟩
  | step hz _ ih =>
    obtain ⟨c, z, h1, h2, h3⟩ := ih
    refine ⟨c, z, h1, h2, .inr ?_⟩
    rcases h3 with rfl | h3
    · exact .one hz
    · exact .step hz h3
variable (E)
/-- Going down from a place, with marks. -/
def dn : Nat → Nat → List Bool → List Bool
  | 0, _, m => m
  | f + 1, i, m => (E i).foldl (fun m z => if m.getD z.toNat false = true then m else dn f z.toNat (m.set z.toNat true)) m
def stepD (f : Nat) (m : List Bool) (z : Int) : List Bool := if m.getD z.toNat false = true then m else dn E f z.toNat (m.set z.toNat true)
theorem dn_succ (f i : Nat) (m : List Bool) : dn E (f + 1) i m = (E i).foldl (stepD E f) m := rfl
structure Dn (L : List Int) (i : Nat) (m m' : List Bool) : Prop where
  len : m'.length = m.length
  cnt : m'.count false ≤ m.count false
  mono : ∀ x : Nat, m.getD x false = true → m'.getD x false = true
  all : ∀ z ∈ L, m'.getD z.toNat false = true
  new : ∀ x : Nat, m'.getD x false = true → m.getD x false = false → Reach E i x ∧ ∀ z ∈ E x, m'.getD z.toNat false = true
variable {E}
theorem Dn.nil (i : Nat) (m : List Bool) : Dn E [] i m m where
  len := rfl
  cnt := Nat.le_refl _
  mono := fun _ h => h
  all := fun _ h => by cases h
  new := fun x h1 h2 => by rw [h2] at h1; cases h1
theorem Dn.app {L1 L2 : List Int} {i : Nat} {m m1 m2 : List Bool} (h1 : Dn E L1 i m m1) (h2 : Dn E L2 i m1 m2) : Dn E (L1 ++ L2) i m m2 where
  len := h2.len.trans h1.len
  cnt := Nat.le_trans h2.cnt h1.cnt
  mono := fun x h => h2.mono x (h1.mono x h)
  all := fun z hz => by
    rcases List.mem_append.1 hz with h | h
    · exact h2.mono _ (h1.all z h)
    · exact h2.all z h
  new := fun x hx hn => by
    cases hm : m1.getD x false with
    | true =>
      obtain ⟨a, b⟩ := h1.new x hm hn
      exact ⟨a, fun z hz => h2.mono _ (b z hz)⟩
    | false => exact h2.new x hx hm
theorem getD_set (m : List Bool) (k x : Nat) (hk : k < m.length) : (m.set k true).getD x false = (if x = k then true else m.getD x false) := by
  rw [List.getD_eq_getElem?_getD, List.getD_eq_getElem?_getD, List.getElem?_set]
  by_cases h : k = x
  · subst h
    simp [hk]
  · rw [if_neg h, if_neg (fun e => h e.symm)]
theorem count_set : ∀ (m : List Bool) (k : Nat), k < m.length → m.getD k false = false → (m.set k true).count false + 1 = m.count false
  | [], k, h, _ => by cases h
  | b :: m, 0, _, h => by
    obtain rfl : b = false := by simpa using h
    simp
  | b :: m, k + 1, h, h2 => by
    have := count_set m k (by simpa using h) (by simpa using h2)
    cases b <;> simp <;> omega
theorem fold_ok {N : Nat} (hE : ∀ i z, z ∈ E i → z.toNat < N) (f : Nat) (ok : ∀ (i : Nat) (m : List Bool), m.length = N → m.count false < f → Dn E (E i) i m (dn E f i m)) (i : Nat) :
    ∀ (L : List Int) (m : List Bool), (∀ z ∈ L, z ∈ E i) → m.length = N → m.count false < f + 1 → Dn E L i m (L.foldl (stepD E f) m) := by
    intro L
    induction L with
    | nil => intro m _ _ _; exact Dn.nil i m
    | cons z L ih =>
      intro m hL hl hc
      have hz := hL z (by simp)
      have hzN := hE i z hz
      have one : Dn E [z] i m (stepD E f m z) := by
        unfold stepD
        cases hm : m.getD z.toNat false with
        | true =>
          rw [if_pos rfl]
          exact { Dn.nil i m with all := fun y hy => by obtain rfl := List.mem_singleton.1 hy; exact hm }
        | false =>
          rw [if_neg (by simp)]
          have hcs := count_set m z.toNat (by omega) hm
          have D := ok z.toNat (m.set z.toNat true) (by simpa using hl) (by omega)
          have gs := fun x => getD_set m z.toNat x (by omega)
          have hself : (dn E f z.toNat (m.set z.toNat true)).getD z.toNat false = true := D.mono _ (by rw [gs]; simp)
          exact {
            len := by rw [D.len]; simp
            cnt := by have := D.cnt; omega
            mono := fun x hx => D.mono x (by rw [gs]; split <;> first | rfl | exact hx)
            all := fun y hy => by obtain rfl := List.mem_singleton.1 hy; exact hself
            new := fun x hx hn => by
              by_cases e : x = z.toNat
              · subst e
                exact ⟨.one hz, D.all⟩
              · obtain ⟨a, b⟩ := D.new x hx (by rw [gs, if_neg e]; exact hn)
                exact ⟨.step hz a, b⟩ }
      exact Dn.app one (ih _ (fun y hy => hL y (by simp [hy])) (by rw [one.len]; exact hl) (by have := one.cnt; omega))
theorem dn_ok {N : Nat} (hE : ∀ i z, z ∈ E i → z.toNat < N) : ∀ (f i : Nat) (m : List Bool), m.length = N → m.count false < f → Dn E (E i) i m (dn E f i m)
  | 0, _, _, _, h => by omega
  | f + 1, i, m, hl, hc => by
    rw [dn_succ]
    exact fold_ok hE f (dn_ok hE f) i (E i) m (fun _ h => h) hl hc
variable (E)
def belowOf (i : Nat) : List Bool := dn E 13 i (List.replicate 12 false)
variable {E}
theorem belowOf_len (hE : ∀ i z, z ∈ E i → z.toNat < 12) (i : Nat) : (belowOf E i).length = 12 := (dn_ok hE 13 i _ (by simp) (by decide)).len
theorem below_iff (hE : ∀ i z, z ∈ E i → z.toNat < 12) (i x : Nat) : (belowOf E i).getD x false = true ↔ Reach E i x := by
  have D := dn_ok hE 13 i (List.replicate 12 false) (by simp) (by decide)
  have h0 : ∀ x : Nat, (List.replicate 12 false).getD x false = false := fun x => by
    rw [List.getD_eq_getElem?_getD, List.getElem?_replicate]; split <;> rfl
  constructor
  · intro h; exact (D.new x h (h0 x)).1
  · intro h
    suffices H : ∀ a x, Reach E a x → (a = i ∨ (belowOf E i).getD a false = true) → (belowOf E i).getD x false = true from H i x h (.inl rfl)
    intro a x h
    induction h with
    | one hz =>
      rintro (rfl | h)
      · exact D.all _ hz
      · exact (D.new _ h (h0 _)).2 _ hz
    | step hz _ ih =>
      rintro (rfl | h)
      · exact ih (.inr (D.all _ hz))
      · exact ih (.inr ((D.new _ h (h0 _)).2 _ hz))
theorem countP_lt {p q : Nat → Bool} : ∀ (l : List Nat), (∀ x ∈ l, p x = true → q x = true) → (∃ y ∈ l, q y = true ∧ p y = false) → l.countP p < l.countP q
  | [], _, h => by obtain ⟨_, h, _⟩ := h; cases h
  | x :: l, hs, h => by
    have hle : l.countP p ≤ l.countP q := List.countP_mono_left (fun y hy => hs y (by simp [hy]))
    obtain ⟨y, hy, hq, hp⟩ := h
    rw [List.countP_cons, List.countP_cons]
    rcases List.mem_cons.1 hy with rfl | hy
    · rw [hq, hp]; simp; omega
    · have := countP_lt l (fun y hy => hs y (by simp [hy])) ⟨y, hy, hq, hp⟩
      have hx := hs x (by simp)
      cases hpx : p x
      · simp; split <;> omega
      · rw [hx hpx]; simp; omega
open Classical in
/-- Where nobody of a set depends on himself, somebody of it requires nobody of it. -/
theorem sink {n : Nat} (hE : ∀ i z, z ∈ E i → z.toNat < n) (U : Nat → Prop) (hac : ∀ u, U u → ¬ Reach E u u) : ∀ u, U u → ∃ v, U v ∧ ∀ z ∈ E v, ¬ U z.toNat := by
  suffices H : ∀ c u, U u → (List.range n).countP (fun x => decide (Reach E u x)) = c → ∃ v, U v ∧ ∀ z ∈ E v, ¬ U z.toNat from fun u hu => H _ u hu rfl
  intro c
  induction c using Nat.strongRecOn with
  | _ c ih =>
    intro u hu hc
    by_cases h : ∀ z ∈ E u, ¬ U z.toNat
    · exact ⟨u, hu, h⟩
    · obtain ⟨z, hz⟩ := Classical.not_forall.1 h
      obtain ⟨hzE, hzU⟩ : z ∈ E u ∧ U z.toNat := ⟨Classical.byContradiction fun e => hz fun h => absurd h e, Classical.byContradiction fun e => hz fun _ => e⟩
      refine ih _ ?_ z.toNat hzU rfl
      rw [← hc]
      refine countP_lt _ ?_ ⟨z.toNat, ?_, ?_, ?_⟩
      · intro x _ hx
        rw [decide_eq_true_eq] at hx ⊢
        exact .step hzE hx
      · rw [List.mem_range]; exact hE u z hzE
      · rw [decide_eq_true_eq]; exact .one hzE
      · rw [decide_eq_false_iff_not]; exact hac _ hzU
end
end Go.Proofs.YtillhaipemengaaGreatDoor
end

section
namespace Go.Proofs.YtillhaipemengaaGreatDoor
open Go Go.RowKit Go.Sort Go.Proofs Go.Proofs.YtillhaipemengaaGreatDoorW.PrintWords Go.Proofs.YtillhaipemengaaGreatDoor.K0
set_option linter.unusedVariables false
set_option linter.unusedSimpArgs false
/-- All that was there, but for one block, is as it was. -/
structure But (B : Nat) (w w' : World) : Prop where
  os : w'.os = w.os
  tape : w'.tape = w.tape
  output : w'.output = w.output
  size : w.heap.size ≤ w'.heap.size
  block : ∀ k, k < w.heap.size → k ≠ B → w'.heap[k]? = w.heap[k]?
theorem But.refl (B : Nat) (w : World) : But B w w := ⟨rfl, rfl, rfl, Nat.le_refl _, fun _ _ _ => rfl⟩
theorem But.trans {B : Nat} {a b c : World} (h : But B a b) (k : But B b c) : But B a c :=
  ⟨k.os.trans h.os, k.tape.trans h.tape, k.output.trans h.output, Nat.le_trans h.size k.size, fun i hi hn => (k.block i (Nat.lt_of_lt_of_le hi h.size) hn).trans (h.block i hi hn)⟩
theorem But.of {B : Nat} {w w' : World} (h : Below w.heap.size w w') : But B w w' := ⟨h.os, h.tape, h.output, h.size, fun k hk _ => h.block k hk⟩
theorem But.set {B : Nat} {w w' : World} (h : But B w w') (o : Nat) (u : Value) : But B w (w'.setCell ⟨B, o, none⟩ u) :=
  h.trans ⟨rfl, rfl, rfl, by simp [World.setCell], fun k _ hn => Below.heap_setCell _ _ _ _ hn⟩
theorem But.below {B C : Nat} {w w' : World} (h : But B w w') (hC : C ≤ B) (hs : C ≤ w.heap.size) : Below C w w' := ⟨h.os, h.tape, h.output, h.size, fun k hk => h.block k (by omega) (by omega)⟩
theorem But.row {B e base : Nat} {w w' : World} {v : Value} {xs : List Int} (h : But B w w') (hr : Kd.R (Kd.int .i64) e w base (fun k => k ≠ B) v xs) : Kd.R (Kd.int .i64) e w' base (fun k => k ≠ B) v xs :=
  Kd.R_step hr (fun k hk hl => h.block k hl hk)
theorem below_cell {w W : World} {q : Addr} {v : Value} (hb : Below w.heap.size w W) (h : w.cell? q = some v) : W.cell? q = some v := (hb.cell (World.block_lt_of_cell? w _ h)).trans h
/-- Block B holds who was met. -/
def MetIs (B : Nat) (m : List Bool) (w : World) : Prop := w.heap[B]? = some (.cells (m.map Value.bool).toArray 114 (0, 0))
theorem MetIs.lt {B : Nat} {m : List Bool} {w : World} (h : MetIs B m w) : B < w.heap.size := by
  rcases Nat.lt_or_ge B w.heap.size with h' | h'
  · exact h'
  · unfold MetIs at h; simp [Array.getElem?_eq_none h'] at h
theorem MetIs.cell {B : Nat} {m : List Bool} {w : World} (h : MetIs B m w) {k : Nat} (hk : k < m.length) : w.cell? ⟨B, k, none⟩ = some (.bool (m.getD k false)) := by
  unfold MetIs at h
  unfold World.cell?
  simp only [h]
  simp [List.getD_eq_getElem?_getD, List.getElem?_eq_getElem hk]
theorem MetIs.free {B : Nat} {m : List Bool} {w : World} (h : MetIs B m w) (k : Nat) : w.frozen? ⟨B, k, none⟩ = false := by
  unfold MetIs at h
  simp [World.frozen?, h]
theorem MetIs.below {B : Nat} {m : List Bool} {w w' : World} (h : MetIs B m w) (hb : Below w.heap.size w w') : MetIs B m w' := (hb.block B h.lt).trans h
theorem MetIs.set {B : Nat} {m : List Bool} {w : World} (h : MetIs B m w) (k : Nat) : MetIs B (m.set k true) (w.setCell ⟨B, k, none⟩ (.bool true)) := by
  have hlt := h.lt
  unfold MetIs at h ⊢
  have h' : w.heap[B] = .cells (m.map Value.bool).toArray 114 (0, 0) := by simpa [Array.getElem?_eq_getElem hlt] using h
  show (w.heap.modify B _)[B]? = _
  rw [Array.getElem?_eq_getElem (by simpa using hlt), Array.getElem_modify_self, h']
  simp [List.map_set]
theorem MetIs.put {B : Nat} {m : List Bool} {w : World} (h : MetIs B m w) (k : Nat) (b : Bool) : MetIs B (m.set k b) (w.setCell ⟨B, k, none⟩ (.bool b)) := by
  have hlt := h.lt
  unfold MetIs at h ⊢
  have h' : w.heap[B] = .cells (m.map Value.bool).toArray 114 (0, 0) := by simpa [Array.getElem?_eq_getElem hlt] using h
  show (w.heap.modify B _)[B]? = _
  rw [Array.getElem?_eq_getElem (by simpa using hlt), Array.getElem_modify_self, h']
  simp [List.map_set]
/-- Whom a module requires, by its place. -/
def edgesOf (l : List S63) (i : Nat) : List Int := match l[i]? with | some x => edgesFrom x 0 l | none => []
theorem edgesOf_at {l : List S63} {i : Nat} {x : S63} (h : l[i]? = some x) : edgesOf l i = edgesFrom x 0 l := by unfold edgesOf; rw [h]
theorem mem_edgesFrom {x : S63} {z : Int} : ∀ {l : List S63} {k : Nat}, z ∈ edgesFrom x k l ↔ ∃ j m, l[j]? = some m ∧ z = ((k + j : Nat) : Int) ∧ needs x m.f1 = true
  | [], k => by simp [edgesFrom]
  | y :: l, k => by
    rw [edgesFrom_at x k _ y l rfl, List.mem_append, mem_edgesFrom (l := l)]
    constructor
    · rintro (h | ⟨j, m, h1, h2, h3⟩)
      · split at h
        · rename_i hn
          obtain rfl := List.mem_singleton.1 h
          exact ⟨0, y, rfl, by simp, hn⟩
        · cases h
      · exact ⟨j + 1, m, by simpa using h1, by omega, h3⟩
    · rintro ⟨j, m, h1, h2, h3⟩
      cases j with
      | zero =>
        obtain rfl : y = m := by simpa using h1
        left; rw [if_pos h3]; simp [h2]
      | succ j => right; exact ⟨j, m, by simpa using h1, by omega, h3⟩
theorem edgesOf_nn (l : List S63) (i : Nat) (z : Int) (h : z ∈ edgesOf l i) : 0 ≤ z ∧ z.toNat < l.length := by
  unfold edgesOf at h
  split at h
  · obtain ⟨j, m, h1, rfl, _⟩ := mem_edgesFrom.1 h
    have := (List.getElem?_eq_some_iff.1 h1).1
    omega
  · cases h
theorem foldl_take {α β : Type} (s : α → β → α) (l : List β) (k : Nat) (z : β) (h : l[k]? = some z) (m : α) : (l.take (k + 1)).foldl s m = s ((l.take k).foldl s m) z := by
  rw [List.take_add_one, h, List.foldl_append]
  rfl
set_option maxRecDepth 100000 in
set_option maxHeartbeats 4000000 in
theorem down_calls (A : Option Addr) (c : Nat) (xs : List S63) (w0 : World) (hr0 : Kd.C k63 w0 A xs.length xs) (hl : xs.length ≤ 12) (B : Nat) (hB : w0.heap.size ≤ B) :
    ∀ (f i : Nat) (m : List Bool) (w : World), i < xs.length → m.length = 12 → m.count false < f → Below w0.heap.size w0 w → MetIs B m w →
    Calls Tryz.prog 116 #[.slice A xs.length c, .int .i64 i, .pointer (some ⟨B, 0, none⟩)] w fun e w' => e = .returned (.tuple #[]) ∧ But B w w' ∧ MetIs B (dn (edgesOf xs) f i m) w' := by
  intro f
  induction f with
  | zero => intro i m w _ _ h; omega
  | succ f ih =>
    intro i m w hi hm hc hb hM
    obtain ⟨x, hx⟩ : ∃ x, xs[i]? = some x := ⟨_, List.getElem?_eq_getElem hi⟩
    have hE : ∀ i z, z ∈ edgesOf xs i → z.toNat < 12 := fun i z hz => by have := (edgesOf_nn xs i z hz).2; omega
    have hfold := fold_ok hE f (dn_ok hE f) i
    have hcall := edges_calls A c xs i x w (Kd.C_below hr0 hb) hx (by omega)
    rw [dn_succ]
    rw [← edgesOf_at hx] at hcall
    obtain ⟨n, hn⟩ : ∃ n, n = xs.length := ⟨_, rfl⟩
    rw [← hn] at hcall hi hl ih ⊢
    obtain ⟨es, hes⟩ : ∃ es, edgesOf xs i = es := ⟨_, rfl⟩
    rw [hes] at hcall ⊢
    have hel : ∀ z ∈ es, 0 ≤ z ∧ z.toNat < n := fun z hz => hn ▸ edgesOf_nn xs i z (hes ▸ hz)
    have IH := Aside0.mk ih
    have HF := Aside0.mk hfold
    have HM := Aside0.mk hM
    have HEL := Aside0.mk hel
    have HES := Aside0.mk hes
    have H0 := Aside0.mk hb
    have HC0 := Aside0.mk hc
    have HML := Aside0.mk hm
    have HE := Aside0.mk hE
    have HN := Aside0.mk hn
    have HX := Aside0.mk hx
    clear ih hfold hM hel hes hb hc hm hE hn hr0 hx
    go_enter Tryz.func116, Tryz.ntmps116
    go_wp2_with (go_at_call 76; refine hcall.mono ?_; rintro e w1 ⟨v0, rfl, hR, hb1⟩; obtain ⟨Av, cv, rfl⟩ := Kd.R_slice hR; have HRW := Aside0.mk hR; have HB1 := Aside0.mk hb1; clear hR hb1)
    have hrow := But.row (But.refl B w1) (Kd.R_mono (Kd.R_bound HRW.out) (fun k hk => (by have := hk.2.1; have := HM.out.lt; omega : k ≠ B)))
    have hM1 := HM.out.below HB1.out
    obtain ⟨len, hlen⟩ : ∃ len, len = es.length := ⟨_, rfl⟩
    rw [← hlen] at hrow ⊢
    have hlen63 : (len : Int) ≤ 4294967290 := by
      have := edgesFrom_len x 0 xs
      have h1 := HES.out
      rw [edgesOf_at HX.out] at h1
      rw [h1] at this
      have := HN.out
      omega
    have HROW := Aside0.mk hrow
    have HM1 := Aside0.mk hM1
    have HLN := Aside0.mk hlen
    clear hrow hM1 hlen HRW
    go_loopg [12] len (fun gg v12 wr => ∃ kk : Nat, kk ≤ len ∧ len - kk ≤ gg ∧ v12 = .int .i64 kk ∧ Aside0 (But B w wr) ∧ Aside0 (Kd.R (Kd.int .i64) 3 wr w.heap.size (fun k => k ≠ B) (.slice Av len cv) es) ∧ Aside0 (MetIs B ((es.take kk).foldl (stepD (edgesOf xs) f) m) wr))
    case atStart => exact ⟨0, Nat.zero_le _, by omega, rfl, ⟨But.of HB1.out⟩, HROW, HM1⟩
    case round =>
      obtain ⟨kk, hkk, hg, rfl, HBW, HRR, HMM⟩ := hrel
      by_cases hlt : kk < len
      · have hltz : (kk : Int) < (len : Int) := by omega
        have hdn := HF.out (es.take kk) m (fun z hz => HES.out ▸ List.mem_of_mem_take hz) HML.out HC0.out
        obtain ⟨z, hz⟩ : ∃ z, es[kk]? = some z := ⟨_, List.getElem?_eq_getElem (by have := HLN.out; omega)⟩
        have hfold := foldl_take (stepD (edgesOf xs) f) es kk z hz m
        obtain ⟨hz0, hzn⟩ := HEL.out z (List.mem_of_getElem? hz)
        have hR2 := HRR.out
        have hR3 := (Kd.R_reads' hR2).2.2
        rw [← HLN.out] at hR3
        obtain ⟨ad, cs, hA, _, hK, hcell⟩ := Kd.C_get hR3 (0 : Int) (kk : Int) (by omega) (by omega)
        have hxe : es.getD (kk : Int).toNat 0 = z := by
          rw [Int.toNat_natCast, List.getD_eq_getElem?_getD, hz]; rfl
        rw [hxe] at hK
        obtain rfl : cs = [.int .i64 z] := hK
        have h0 : wr.cell? (ad.add kk) = some (.int .i64 z) := by
          have := hcell 0 _ rfl
          rw [Int.toNat_natCast, show (Kd.int .i64).sz = 1 from rfl] at this
          simpa using this
        subst hA
        obtain ⟨k, rfl⟩ : ∃ k : Nat, z = (k : Int) := ⟨z.toNat, by omega⟩
        rw [Int.toNat_natCast] at hzn
        have hM2 := HMM.out
        obtain ⟨mj, hmj⟩ : ∃ mj, (es.take kk).foldl (stepD (edgesOf xs) f) m = mj := ⟨_, rfl⟩
        rw [hmj] at hdn hfold hM2
        have hmjl : mj.length = 12 := hdn.len.trans HML.out
        have hk12 : k < 12 := by omega
        have hkz : (k : Int) < 12 := by omega
        have hcB := hM2.cell (k := k) (by omega)
        have hfB := hM2.free k
        have HM2 := Aside0.mk hM2
        have HDN := Aside0.mk hdn
        have HMJL := Aside0.mk hmjl
        have HFO := Aside0.mk hfold
        clear hR2 hR3 hxe hcell hz hmj HMM hM2 hdn hfold hmjl
        cases hq : mj.getD k false with
        | true =>
          rw [hq] at hcB
          go_wp2
          go_roundg (len - (kk + 1))
          case measure => omega
          case rel =>
            refine ⟨kk + 1, by omega, by omega, by go_num, HBW, HRR, ⟨?_⟩⟩
            rw [HFO.out]
            unfold stepD
            rw [Int.toNat_natCast, if_pos hq]
            exact HM2.out
        | false =>
          rw [hq] at hcB
          have hcalls := IH.out k (mj.set k true) (wr.setCell ⟨B, k, none⟩ (.bool true)) hzn (by rw [List.length_set]; exact HMJL.out) (by have := count_set mj k (by rw [HMJL.out]; omega) hq; have := HDN.out.cnt; have := HC0.out; omega) (H0.out.trans (HBW.out.below hB (by have := H0.out.size; omega)) |>.trans ((But.refl B wr).set k (.bool true) |>.below hB (by have := H0.out.size; have := HBW.out.size; omega))) (HM2.out.set k)
          go_wp2_with (go_at_call 116; refine hcalls.mono ?_; rintro e w2 ⟨rfl, hb2, hm2⟩; have HB2 := Aside0.mk hb2; have HM3 := Aside0.mk hm2; clear hb2 hm2)
          go_roundg (len - (kk + 1))
          case measure => omega
          case rel =>
            refine ⟨kk + 1, by omega, by omega, by go_num, ⟨(HBW.out.set k (.bool true)).trans HB2.out⟩, ⟨(((But.refl B wr).set k (.bool true)).trans HB2.out).row HRR.out⟩, ⟨?_⟩⟩
            rw [HFO.out]
            unfold stepD
            rw [Int.toNat_natCast, if_neg (by rw [hq]; simp)]
            exact HM3.out
      · have hltz : ¬ (kk : Int) < (len : Int) := by omega
        have : kk = len := by omega
        subst this
        go_wp2
        go_end0
        refine ⟨rfl, HBW.out, ?_⟩
        have h := HMM.out
        rwa [List.take_of_length_le (by have := HLN.out; omega)] at h
theorem twelve {α : Type} {l : List α} (h : l.length = 12) : ∃ b0 b1 b2 b3 b4 b5 b6 b7 b8 b9 b10 b11, l = [b0, b1, b2, b3, b4, b5, b6, b7, b8, b9, b10, b11] := by
  match l, h with
  | [b0, b1, b2, b3, b4, b5, b6, b7, b8, b9, b10, b11], _ => exact ⟨b0, b1, b2, b3, b4, b5, b6, b7, b8, b9, b10, b11, rfl⟩
def met0 : List Bool := List.replicate 12 false
theorem met_kept (w w2 : World) (h : But (w.heap.size + 1) ((w.alloc (.cells #[.bool false, .bool false, .bool false, .bool false, .bool false, .bool false, .bool false, .bool false, .bool false, .bool false, .bool false, .bool false] 114)).alloc (.cells #[.bool false, .bool false, .bool false, .bool false, .bool false, .bool false, .bool false, .bool false, .bool false, .bool false, .bool false, .bool false] 114)) w2) :
    MetIs w.heap.size [false, false, false, false, false, false, false, false, false, false, false, false] w2 := by
  unfold MetIs
  rw [h.block w.heap.size (by simp; omega) (by omega), Below.heap_alloc _ _ _ (by simp)]
  exact heap_alloc_new w _
set_option maxHeartbeats 1000000 in
theorem below_calls (A : Option Addr) (c : Nat) (xs : List S63) (i : Nat) (w : World) (hr : Kd.C k63 w A xs.length xs) (hl : xs.length ≤ 12) (hi : i < xs.length) :
    Calls Tryz.prog 86 #[.slice A xs.length c, .int .i64 i] w fun e w' => e = .returned (.agg ((belowOf (edgesOf xs) i).map Value.bool).toArray) ∧ Below w.heap.size w w' := by
  have hd : Calls Tryz.prog 116 #[.slice A xs.length c, .int .i64 i, .pointer (some ⟨w.heap.size + 1, 0, none⟩)] ((w.alloc (.cells (met0.map Value.bool).toArray 114)).alloc (.cells (met0.map Value.bool).toArray 114)) fun e w' => e = .returned (.tuple #[]) ∧ But (w.heap.size + 1) ((w.alloc (.cells (met0.map Value.bool).toArray 114)).alloc (.cells (met0.map Value.bool).toArray 114)) w' ∧ MetIs (w.heap.size + 1) (belowOf (edgesOf xs) i) w' :=
    down_calls A c xs w hr hl (w.heap.size + 1) (by omega) 13 i met0 _ hi rfl (by decide) (below_alloc (below_alloc (Below.refl _ _) _) _) (by
      unfold MetIs
      have : (w.alloc (.cells (met0.map Value.bool).toArray 114)).heap.size = w.heap.size + 1 := by simp
      rw [← this]
      exact heap_alloc_new _ _)
  have hlen : (belowOf (edgesOf xs) i).length = 12 := belowOf_len (fun i z hz => by have := (edgesOf_nn xs i z hz).2; omega) i
  obtain ⟨m, hm⟩ : ∃ m, belowOf (edgesOf xs) i = m := ⟨_, rfl⟩
  rw [hm] at hd hlen ⊢
  obtain ⟨b0, b1, b2, b3, b4, b5, b6, b7, b8, b9, b10, b11, rfl⟩ := twelve hlen
  simp only [met0, List.replicate, List.map_cons, List.map_nil] at hd ⊢
  generalize xs.length = n at hl hi hd ⊢
  clear hm hr hlen
  go_enter Tryz.func86, Tryz.ntmps86
  go_wp2_with (go_at_call 116; go_loud (refine hd.mono ?_); rintro e w2 ⟨rfl, hb2, hm2⟩; have hz := met_kept w w2 hb2; have c0 := hm2.cell (k := 0) (by simp); have c1 := hm2.cell (k := 1) (by simp); have c2 := hm2.cell (k := 2) (by simp); have c3 := hm2.cell (k := 3) (by simp); have c4 := hm2.cell (k := 4) (by simp); have c5 := hm2.cell (k := 5) (by simp); have c6 := hm2.cell (k := 6) (by simp); have c7 := hm2.cell (k := 7) (by simp); have c8 := hm2.cell (k := 8) (by simp); have c9 := hm2.cell (k := 9) (by simp); have c10 := hm2.cell (k := 10) (by simp); have c11 := hm2.cell (k := 11) (by simp); have d0 := hz.cell (k := 0) (by simp); have d1 := hz.cell (k := 1) (by simp); have d2 := hz.cell (k := 2) (by simp); have d3 := hz.cell (k := 3) (by simp); have d4 := hz.cell (k := 4) (by simp); have d5 := hz.cell (k := 5) (by simp); have d6 := hz.cell (k := 6) (by simp); have d7 := hz.cell (k := 7) (by simp); have d8 := hz.cell (k := 8) (by simp); have d9 := hz.cell (k := 9) (by simp); have d10 := hz.cell (k := 10) (by simp); have d11 := hz.cell (k := 11) (by simp); have f0 := hz.free 0; have f1 := hz.free 1; have f2 := hz.free 2; have f3 := hz.free 3; have f4 := hz.free 4; have f5 := hz.free 5; have f6 := hz.free 6; have f7 := hz.free 7; have f8 := hz.free 8; have f9 := hz.free 9; have f10 := hz.free 10; have f11 := hz.free 11)
  have hfin := ((((((((((((hz.put 0 b0).put 1 b1).put 2 b2).put 3 b3).put 4 b4).put 5 b5).put 6 b6).put 7 b7).put 8 b8).put 9 b9).put 10 b10).put 11 b11)
  (try simp only [Exit.inBlock, Exit.then])
  refine bodyPost_ret (results_cell_row rfl _ _ w.heap.size 114 _ (0, 0) (.array 12 4) rfl hfin Tryz.underlying114 rfl (by kernel_rfl)) rfl ⟨rfl, ?_⟩
  have hb3 := hb2.below (C := w.heap.size) (by omega) (by simp; omega)
  have hb4 := (below_alloc (below_alloc (Below.refl w.heap.size w) _) _).trans hb3
  exact ((((((((((((hb4.setCell (p := ⟨w.heap.size, 0, none⟩) (Nat.le_refl _) (.bool b0)).setCell (p := ⟨w.heap.size, 1, none⟩) (Nat.le_refl _) (.bool b1)).setCell (p := ⟨w.heap.size, 2, none⟩) (Nat.le_refl _) (.bool b2)).setCell (p := ⟨w.heap.size, 3, none⟩) (Nat.le_refl _) (.bool b3)).setCell (p := ⟨w.heap.size, 4, none⟩) (Nat.le_refl _) (.bool b4)).setCell (p := ⟨w.heap.size, 5, none⟩) (Nat.le_refl _) (.bool b5)).setCell (p := ⟨w.heap.size, 6, none⟩) (Nat.le_refl _) (.bool b6)).setCell (p := ⟨w.heap.size, 7, none⟩) (Nat.le_refl _) (.bool b7)).setCell (p := ⟨w.heap.size, 8, none⟩) (Nat.le_refl _) (.bool b8)).setCell (p := ⟨w.heap.size, 9, none⟩) (Nat.le_refl _) (.bool b9)).setCell (p := ⟨w.heap.size, 10, none⟩) (Nat.le_refl _) (.bool b10)).setCell (p := ⟨w.heap.size, 11, none⟩) (Nat.le_refl _) (.bool b11))
end Go.Proofs.YtillhaipemengaaGreatDoor
end
