/- A range over a function, in the wide fence: one promise of the iterator ('SeqHas'), one law for the loop ('range_law'). -/
import Derived.RangeFuncNested
import Derived.RangeFuncBound
import Derived.RangeFuncCalls
import Derived.RangeFuncLeaves
import Derived.Below
import Derived.Deep.Draws
import Derived.Test.YtnfiigjignpkaaaGreatDoorMaj
import Derived.Shelf.Abstract
import Derived.Shelf.RegionOpen
import Derived.WalkKit
import Derived.OwnWalkIn
import Derived.TacticsInMore
import Derived.LoopNIn
import Derived.LoopIn
import Derived.Outline
import Derived.Lib.Hide
import Derived.Test.YtnfiigjignpkaaaGreatDoorR1x
namespace Go.Proofs.YtnfiigjignpkaaaGreatDoor
open Go Go.RowKit

/-- From A to B: no block is gone, and of A's blocks only those that 'may' have turned. -/
structure Moves (may : Nat → Prop) (A B : World) : Prop where
  size : A.heap.size ≤ B.heap.size
  block : ∀ k, k < A.heap.size → ¬ may k → B.heap[k]? = A.heap[k]?
  os : B.os = A.os
  tape : B.tape = A.tape
  output : B.output = A.output
theorem Moves.refl (may : Nat → Prop) (A : World) : Moves may A A := ⟨Nat.le_refl _, fun _ _ _ => rfl, rfl, rfl, rfl⟩
theorem Moves.trans {may : Nat → Prop} {A B C : World} (h : Moves may A B) (k : Moves may B C) : Moves may A C :=
  ⟨Nat.le_trans h.size k.size, fun i hi hm => (k.block i (Nat.lt_of_lt_of_le hi h.size) hm).trans (h.block i hi hm), k.os.trans h.os, k.tape.trans h.tape, k.output.trans h.output⟩
theorem Moves.mono {may may' : Nat → Prop} {A B : World} (h : Moves may A B) (hm : ∀ k, may k → may' k) : Moves may' A B :=
  ⟨h.size, fun k hk hn => h.block k hk (fun e => hn (hm k e)), h.os, h.tape, h.output⟩
theorem Moves.of_below {may : Nat → Prop} {A B : World} (h : Below A.heap.size A B) : Moves may A B := ⟨h.size, fun k hk _ => h.block k hk, h.os, h.tape, h.output⟩
theorem Moves.drewN (may : Nat → Prop) (A : World) (n : Nat) : Moves may A (A.drewN n) := ⟨Nat.le_refl _, fun _ _ _ => rfl, rfl, rfl, rfl⟩
theorem Moves.setCell {may : Nat → Prop} {A : World} {p : Addr} (hp : may p.block) (v : Value) : Moves may A (A.setCell p v) :=
  ⟨by simp [World.setCell], fun k _ hm => Below.heap_setCell A p v k (fun e => hm (e ▸ hp)), rfl, rfl, rfl⟩
theorem Moves.alloc (may : Nat → Prop) (A : World) (o : Obj) : Moves may A (A.alloc o) :=
  ⟨by simp, fun k hk _ => Below.heap_alloc A o k hk, rfl, rfl, rfl⟩
theorem Moves.putObj {may : Nat → Prop} {A : World} {l : Nat} (hl : may l) (o : Obj) : Moves may A (A.putObj l o) :=
  ⟨by simp, fun k _ hm => World.putObj_heap_other (fun e => hm (e ▸ hl)), rfl, rfl, rfl⟩

theorem below_moves {n : Nat} {p : Nat → Prop} {w A B : World} (h : Below n w A) (hn : n ≤ w.heap.size) (hm : Moves p A B) (hp : ∀ k, p k → n ≤ k) : Below n w B :=
  ⟨hm.os.trans h.os, hm.tape.trans h.tape, hm.output.trans h.output, Nat.le_trans h.size hm.size, fun k hk => (hm.block k (by have := h.size; omega) (fun e => by have := hp k e; omega)).trans (h.block k hk)⟩
/-- What an iterator promises: xs, one by one, or as many as the loop takes; it leans on the blocks 'keep', and turns of the elder ones 'may' alone. -/
def SeqHas {α : Type} (P : Program) (gf : Nat) (lb : Array Value) (encs : α → Array Value) (xs : List α) (keep may : Nat → Prop) (w : World) : Prop :=
  ∀ (l : Nat) (J Jx : List α → World → Prop) (W : World), w.heap.size ≤ W.heap.size → (∀ k, keep k → W.heap[k]? = w.heap[k]?) →
    (∀ s A B, J s A → Moves may A B → J s B) → (∀ s A B, Jx s A → Moves may A B → Jx s B) →
    (∀ pre x W1, J pre W1 → (pre ++ [x]) <+: xs → YieldAt Fence.wide 0 P l (encs x) W1 fun e W' =>
      (e = .returned (.bool true) ∧ J (pre ++ [x]) W' ∧ W1.heap.size ≤ W'.heap.size ∧ ∀ k, keep k → W'.heap[k]? = W1.heap[k]?) ∨ (e = .returned (.bool false) ∧ Jx (pre ++ [x]) W')) →
    J [] W →
    CallsIn Fence.wide 0 P gf (#[.func (.yield l) #[] #[]] ++ lb) W fun e W' => (∃ v, e = .returned v) ∧ (J xs W' ∨ ∃ pre, pre <+: xs ∧ Jx pre W')

/-- How a round's body is left. -/
def BodyPost {α : Type} (mine : Nat → Prop) (I : List α → World → Prop) (Ix : Code → List α → World → Prop) (xs : List α) (W : World) : Exit → Act → World → Prop
  | .normal, _, W' => Moves mine W W' ∧ I xs W'
  | .ret, _, W' => Moves mine W W' ∧ Ix .ret xs W'
  | .exit id, _, W' => Moves mine W W' ∧ Ix (.exit id) xs W'
  | .goto t, _, W' => Moves mine W W' ∧ Ix (.goto t) xs W'
  | .panic _, _, _ => False
  | .outgrown, _, _ => False

/-- 'for .. := range g { .. }' outside of any other such loop. The assignment's world may move ('A' says what it leaves). -/
theorem range_law {α : Type} {P : Program} {g : Operand} {ps : Array Tmp} {assign body : Code} {Q : Exit → Act → World → Prop} {a : Act} {w : World}
    {gf : Nat} {lb : Array Value} (hg : a.eval g = .func (.func gf) #[] lb) (eg : ∀ args w, (callFunc gf args).run P w = .ok (.enter gf args) w)
    {encs : α → Array Value} {xs : List α} {keep may : Nat → Prop} (hseq : SeqHas P gf lb encs xs keep may w)
    (hkeep : ∀ k, keep k → k < w.heap.size) (hmay : ∀ k, may k → k < w.heap.size) (hps : ∀ x, (encs x).size = ps.size)
    (mine : Nat → Prop) (hmine : ∀ k, mine k → k < w.heap.size ∧ ¬ keep k)
    (I : List α → World → Prop) (Ix : Code → List α → World → Prop)
    (hI : ∀ s A B, I s A → w.heap.size ≤ A.heap.size → Moves (fun k => may k ∨ w.heap.size ≤ k) A B → I s B)
    (hIx : ∀ c s A B, Ix c s A → w.heap.size ≤ A.heap.size → Moves (fun k => may k ∨ w.heap.size ≤ k) A B → Ix c s B)
    (h0 : I [] w) (A : Nat → α → World → Act → World → Prop)
    (hassign : ∀ (l : Nat) (x : α) (W : World) (K : Act → World → Prop), w.heap.size ≤ W.heap.size → (∀ a' W', A l x W a' W' → K a' W') →
      assign.wpIn (Fence.wide.inRound l) 0 P (Exit.then K (fun _ _ _ => False)) { tmps := (ps.zip (encs x)).foldl (fun t (p, v) => t.setIfInBounds p v) a.tmps, defers := [] } W)
    (hA : ∀ l x W a' W', A l x W a' W' → Moves mine W W')
    (hbody : ∀ (l : Nat) (pre : List α) (x : α) (W W1 W2 : World) (a' : Act), w.heap.size ≤ W.heap.size → I pre W → (pre ++ [x]) <+: xs → A l x W a' W1 → Moves (fun k => k = l) W1 W2 → w.heap.size ≤ l → l < W.heap.size →
      body.wpIn (Fence.wide.inRound l) 0 P (BodyPost mine I Ix (pre ++ [x]) W2) a' W2)
    (hdone : ∀ (D : Nat) (W : World), I xs W → W.heap[D]? = some (.deferred (some [])) → w.heap.size ≤ D → Q .normal { a with defers := { target := .collected D, args := #[] } :: a.defers } W)
    (hstop : ∀ (D : Nat) (c : Code) (pre : List α) (W : World), pre <+: xs → Ix c pre W → W.heap[D]? = some (.deferred (some [])) → w.heap.size ≤ D →
      c.wpIn Fence.wide 0 P Q { a with defers := { target := .collected D, args := #[] } :: a.defers } W) :
    (Code.rangeFunc g ps assign body).wpIn Fence.wide 0 P Q a w := by
  refine wpIn_rangeFunc ?_
  intro fn _
  obtain ⟨rec, hrec⟩ : ∃ rec : LoopState → Option Code → Loop, rec = fun st pe => { state := st, pending := pe, fn, tmps := a.tmps, params := ps, assign, body, defers := w.heap.size } := ⟨_, rfl⟩
  obtain ⟨W0, hW0⟩ : ∃ W0, (w.alloc (.deferred (some []))).alloc (.loop (rec .ready none)) = W0 := ⟨_, rfl⟩
  have hsz : W0.heap.size = w.heap.size + 2 := by rw [← hW0]; simp
  have hM0 : Moves (fun k => w.heap.size ≤ k) w W0 := by rw [← hW0]; exact (Moves.alloc _ _ _).trans (Moves.alloc _ _ _)
  have hL0 : W0.heap[w.heap.size + 1]? = some (.loop (rec .ready none)) := by
    rw [← hW0]; have := World.alloc_heap_new (w.alloc (.deferred (some []))) (.loop (rec .ready none)); rwa [World.size_alloc] at this
  have hD0 : W0.heap[w.heap.size]? = some (.deferred (some [])) := by
    rw [← hW0]; exact (Below.heap_alloc _ _ _ (by simp)).trans (World.alloc_heap_new w _)
  -- the loop's own two blocks lie outside of all that the iterator and the body may turn
  have hnm : ∀ j, ¬ may (w.heap.size + j) := fun j h => by have := hmay _ h; omega
  have hnk : ∀ j, ¬ keep (w.heap.size + j) := fun j h => by have := hkeep _ h; omega
  have hni : ∀ j, ¬ mine (w.heap.size + j) := fun j h => by have := (hmine _ h).1; omega
  have hstay : ∀ {p : Nat → Prop} {A B : World} {k : Nat} {o : Obj}, Moves p A B → ¬ p k → A.heap[k]? = some o → B.heap[k]? = some o :=
    fun hm hp ho => (hm.block _ (Array.getElem?_eq_some_iff.1 ho).1 hp).trans ho
  have hlt : ∀ {A : World} {k : Nat} {o : Obj}, A.heap[k]? = some o → k < A.heap.size := fun ho => (Array.getElem?_eq_some_iff.1 ho).1
  have hput : ∀ (W : World) (o : Obj), Moves (fun k => may k ∨ w.heap.size ≤ k) W (W.putObj (w.heap.size + 1) o) := fun W o => Moves.putObj (.inr (by omega)) o
  refine ⟨w.heap.size + 1, [{ target := .collected w.heap.size, args := #[] }], W0, { target := .fn (.func gf) lb, args := #[.func (.yield (w.heap.size + 1)) #[] #[]] }, W0, gf,
    #[.func (.yield (w.heap.size + 1)) #[] #[]] ++ lb, W0, ?_, ?_, fun f' hf' => trivial, ?_, fun h => by simp [Fence.wide] at h, ?_⟩
  · rw [← hW0, hrec]; exact run_enterLoop_outer _ _ _ _ _
  · simp only [resolve, hg]
    simp [go_sem]
  · simp [invoke, go_sem, eg]
  · refine (hseq (w.heap.size + 1)
      (fun pre W => I pre W ∧ W.heap[w.heap.size + 1]? = some (.loop (rec .ready none)) ∧ W.heap[w.heap.size]? = some (.deferred (some [])))
      (fun pre W => ∃ c, Ix c pre W ∧ W.heap[w.heap.size + 1]? = some (.loop (rec .done (some c))) ∧ W.heap[w.heap.size]? = some (.deferred (some [])))
      W0 (by omega) (fun k hk => hM0.block k (hkeep k hk) (by have := hkeep k hk; omega)) ?_ ?_ ?_ ?_).mono ?_
    · rintro s A B ⟨h1, h2, h3⟩ hm
      exact ⟨hI s A B h1 (by have := hlt h2; omega) (hm.mono fun k hk => .inl hk), hstay hm (hnm 1) h2, hstay hm (hnm 0) h3⟩
    · rintro s A B ⟨c, h1, h2, h3⟩ hm
      exact ⟨c, hIx c s A B h1 (by have := hlt h2; omega) (hm.mono fun k hk => .inl hk), hstay hm (hnm 1) h2, hstay hm (hnm 0) h3⟩
    · rintro pre x W ⟨hi, hl, hd⟩ hpre
      have hwl := hlt hl
      have hy := run_yield (P := P) (args := encs x) hl (by rw [hrec]; exact hps x)
      rw [hrec] at hy
      refine ⟨fn, _, assign, body, hy, roundIn_of_wpIn trivial (hassign _ x W _ (by omega) fun a' W1 ha => ?_)⟩
      have hm1 := hA _ _ _ _ _ ha
      have hl1 := hstay hm1 (hni 1) hl
      have hd1 := hstay hm1 (hni 0) hd
      refine ⟨_, run_beginRound hl1 (by rw [hrec]), ?_⟩
      obtain ⟨W2, hW2⟩ : ∃ W2, W1.putObj (w.heap.size + 1) (.loop { rec .ready none with state := .busy }) = W2 := ⟨_, rfl⟩
      have hl2 : W2.heap[w.heap.size + 1]? = some (.loop { rec .ready none with state := .busy }) := by rw [← hW2]; exact World.putObj_heap_same (hlt hl1)
      have hd2 : W2.heap[w.heap.size]? = some (.deferred (some [])) := by rw [← hW2]; exact (World.putObj_heap_other (by omega)).trans hd1
      have hm2 : Moves (fun k => k = w.heap.size + 1) W1 W2 := by rw [← hW2]; exact Moves.putObj (may := fun k => k = w.heap.size + 1) rfl _
      rw [hW2]
      have fin : ∀ (jump : Option Code) (W3 : World), Moves mine W2 W3 →
          (Instr.endRound (w.heap.size + 1) jump).run P W3 = .ok (.bool jump.isNone) (W3.putObj (w.heap.size + 1) (.loop (rec (if jump.isNone then .ready else .done) jump))) ∧
          (W3.putObj (w.heap.size + 1) (.loop (rec (if jump.isNone then .ready else .done) jump))).heap[w.heap.size + 1]? = some (.loop (rec (if jump.isNone then .ready else .done) jump)) ∧
          (W3.putObj (w.heap.size + 1) (.loop (rec (if jump.isNone then .ready else .done) jump))).heap[w.heap.size]? = some (.deferred (some [])) ∧ w.heap.size + 1 < W3.heap.size := fun jump W3 hm3 => by
        have hl3 := hstay hm3 (hni 1) hl2
        have hd3 := hstay hm3 (hni 0) hd2
        have he := run_endRound (P := P) jump hl3
        rw [hrec] at he ⊢
        exact ⟨he, World.putObj_heap_same (hlt hl3), (World.putObj_heap_other (by omega)).trans hd3, hlt hl3⟩
      refine wpIn_mono (hbody _ pre x W W1 W2 a' (by omega) hi hpre ha hm2 (by omega) hwl) ?_
      rintro e a3 W3 hp
      cases e with
      | normal =>
        obtain ⟨hm3, hi3⟩ := hp
        obtain ⟨he, hl4, hd4, hs3⟩ := fin none W3 hm3
        refine ⟨_, _, he, .inl ⟨rfl, ⟨hI _ _ _ hi3 (by omega) (hput _ _), hl4, hd4⟩, ?_, fun k hk => ?_⟩⟩
        · have := hm1.size; have := hm2.size; have := hm3.size; simp; omega
        · have hkw := hkeep k hk
          have hkm : ¬ mine k := fun h => (hmine k h).2 hk
          have s1 := hm1.size; have s2 := hm2.size
          exact (World.putObj_heap_other (by omega)).trans ((hm3.block k (by omega) hkm).trans ((hm2.block k (by omega) (by omega)).trans (hm1.block k (by omega) hkm)))
      | ret =>
        obtain ⟨hm3, hi3⟩ := hp
        obtain ⟨he, hl4, hd4, hs3⟩ := fin (some .ret) W3 hm3
        exact ⟨_, _, he, .inr ⟨rfl, .ret, hIx _ _ _ _ hi3 (by omega) (hput _ _), hl4, hd4⟩⟩
      | exit id =>
        obtain ⟨hm3, hi3⟩ := hp
        obtain ⟨he, hl4, hd4, hs3⟩ := fin (some (.exit id)) W3 hm3
        exact ⟨_, _, he, .inr ⟨rfl, .exit id, hIx _ _ _ _ hi3 (by omega) (hput _ _), hl4, hd4⟩⟩
      | goto t =>
        obtain ⟨hm3, hi3⟩ := hp
        obtain ⟨he, hl4, hd4, hs3⟩ := fin (some (.goto t)) W3 hm3
        exact ⟨_, _, he, .inr ⟨rfl, .goto t, hIx _ _ _ _ hi3 (by omega) (hput _ _), hl4, hd4⟩⟩
      | panic ch => exact hp.elim
      | outgrown => exact hp.elim
    · exact ⟨hI _ _ _ h0 (Nat.le_refl _) (hM0.mono fun k hk => .inr hk), hL0, hD0⟩
    · rintro e W2 ⟨⟨v, rfl⟩, (⟨hi, hl, hd⟩ | ⟨pre, hpre, c, hi, hl, hd⟩)⟩
      · refine ⟨none, _, by have := run_endLoop (P := P) hl (by rw [hrec]; simp); rw [hrec] at this; exact this, hdone _ _ (hI _ _ _ hi (by have := hlt hl; omega) (hput _ _)) ((World.putObj_heap_other (by omega)).trans hd) (Nat.le_refl _)⟩
      · exact ⟨some c, _, by have := run_endLoop (P := P) hl (by rw [hrec]; simp); rw [hrec] at this; exact this, hstop _ c pre _ hpre (hIx _ _ _ _ hi (by have := hlt hl; omega) (hput _ _)) ((World.putObj_heap_other (by omega)).trans hd) (Nat.le_refl _)⟩

/-! ### A function's end, where its body held such a loop -/
section
variable {P : Program} {fn : Func} {tmps : Array Value} {R : Ending → World → Prop} {w : World} {v : Value}
theorem leave_plain (hr : (results fn tmps).run P w = .ok v w) (hR : R (.returned v) w) : bodyPostM Fence.wide 0 P fn R .ret { tmps := tmps, defers := [] } w := ⟨v, hr, hR⟩
theorem leave_marked {D : Nat} (hd : w.heap[D]? = some (.deferred (some []))) (hr : (results fn tmps).run P (w.putObj D (.deferred none)) = .ok v (w.putObj D (.deferred none))) (hR : R (.returned v) (w.putObj D (.deferred none))) :
    bodyPostM Fence.wide 0 P fn R .ret { tmps := tmps, defers := [{ target := .collected D, args := #[] }] } w :=
  ⟨by simp, .inl ⟨_, _, rfl, run_takeDeferred hd, v, hr, hR⟩⟩
theorem leave_plain_n (hr : (results fn tmps).run P w = .ok v w) (hR : R (.returned v) w) : bodyPostM Fence.wide 0 P fn R .normal { tmps := tmps, defers := [] } w := ⟨v, hr, hR⟩
/-- One result that is a variable of one cell. -/
theorem results_cell1 {p : Tmp} {ty : TypeId} {a : Addr} (h : fn.results = #[.cell p ty]) (hp : tmps.getD p undef = .pointer (some a)) (ha : ∀ w, (isAgg ty).run P w = .ok false w) (hc : w.cell? a = some v) :
    (results fn tmps).run P w = .ok v w := by
  have hp' : tmps[p]?.getD undef = .pointer (some a) := by simpa using hp
  have hl : (loadVar ty a).run P w = .ok v w := by simp [loadVar, go_sem, ha, hc, Result.andThen]
  simp [results, h, hp', asAddr, hl]
theorem cell_putObj {W : World} {D : Nat} {o : Obj} {p : Addr} {u : Value} (hp : p.block ≠ D) (hc : W.cell? p = some u) : (W.putObj D o).cell? p = some u :=
  (World.cell?_of_block (w := W) (World.putObj_heap_other hp)).trans hc
end
end Go.Proofs.YtnfiigjignpkaaaGreatDoor

/- strings.SplitSeq at one byte: its iterator hands out the parts, one by one. -/
namespace Go.Proofs.YtnfiigjignpkaaaGreatDoor
open Go Go.RowKit Go.Shelf Go.Proofs.YtnfiigjignpkaaaGreatDoorW.PrintWords
attribute [local go_sem] Oper.semAt_some
set_option linter.unusedVariables false

/-- One variable in memory: a block of one cell. -/
def Box (W : World) (b : Nat) (t : TypeId) (v : Value) : Prop := W.heap[b]? = some (.cells #[v] t (0, 0))
theorem Box.cell {W : World} {b : Nat} {t : TypeId} {v : Value} (h : Box W b t v) : W.cell? ⟨b, 0, none⟩ = some v := by
  unfold Box at h
  simp [World.cell?, h]
theorem Box.frozen {W : World} {b : Nat} {t : TypeId} {v : Value} (h : Box W b t v) : W.frozen? ⟨b, 0, none⟩ = false := by
  unfold Box at h
  simp [World.frozen?, h]
theorem Box.new (W : World) (t : TypeId) (v : Value) : Box (W.alloc (.cells #[v] t)) W.heap.size t v := by
  show (W.heap.push _)[W.heap.size]? = _
  simp
theorem Box.new' (W : World) (t : TypeId) (v : Value) (n : Nat) (hn : n = W.heap.size) : Box (W.alloc (.cells #[v] t)) n t v := hn ▸ Box.new W t v
theorem Box.lt {W : World} {b : Nat} {t : TypeId} {v : Value} (h : Box W b t v) : b < W.heap.size := (Array.getElem?_eq_some_iff.1 h).1
theorem Box.alloc {W : World} {b : Nat} {t : TypeId} {v : Value} (h : Box W b t v) (o : Obj) : Box (W.alloc o) b t v := (Below.heap_alloc W o b h.lt).trans h
theorem Box.set {W : World} {b : Nat} {t : TypeId} {v : Value} (h : Box W b t v) (u : Value) : Box (W.setCell ⟨b, 0, none⟩ u) b t u := by
  unfold Box at *
  simp [World.setCell, Array.getElem?_modify, h]
theorem Box.far {W : World} {b : Nat} {t : TypeId} {v : Value} (h : Box W b t v) {p : Addr} (hp : b ≠ p.block) (u : Value) : Box (W.setCell p u) b t v := (Below.heap_setCell W p u b hp).trans h
theorem Box.same {W W' : World} {b : Nat} {t : TypeId} {v : Value} (h : Box W b t v) (hs : W'.heap[b]? = W.heap[b]?) : Box W' b t v := hs.trans h
theorem Box.moves {W W' : World} {b : Nat} {t : TypeId} {v : Value} {p : Nat → Prop} (h : Box W b t v) (hm : Moves p W W') (hp : ¬ p b) : Box W' b t v := (hm.block b h.lt hp).trans h
theorem Box.putObj {W : World} {b D : Nat} {t : TypeId} {v : Value} {o : Obj} (h : Box W b t v) (hD : b ≠ D) : Box (W.putObj D o) b t v := (World.putObj_heap_other hD).trans h
/-- The size of the text in a variable (a loop's measure). -/
def textLeft (W : World) (b : Nat) : Nat := match W.cell? ⟨b, 0, none⟩ with | some (.string s) => s.size | _ => 0
theorem Box.left {W : World} {b : Nat} {t : TypeId} {s : ByteArray} (h : Box W b t (.string s)) : textLeft W b = s.size := by
  unfold textLeft; rw [h.cell]

theorem Lib.index_cases_one (s : ByteArray) (c : UInt8) : Lib.indexByte s.data.toList c = -1 ∨ ∃ i : Nat, Lib.indexByte s.data.toList c = i ∧ i < s.size := by
  have hge := Lib.indexByte_ge s.data.toList c
  by_cases h : Lib.indexByte s.data.toList c = -1
  · exact .inl h
  · obtain ⟨i, hi⟩ : ∃ i : Nat, Lib.indexByte s.data.toList c = i := ⟨(Lib.indexByte s.data.toList c).toNat, by omega⟩
    exact .inr ⟨i, hi, (splitBy_hit hi).1⟩
set_option maxRecDepth 100000 in
set_option maxHeartbeats 2000000 in
theorem splitSeq_has (c : UInt8) (s : ByteArray) (bsep bs bsv : Nat) (w : World) (h1 : bsep ≠ bs) (h2 : bsv ≠ bs) (hsz : s.size ≤ 4294967280)
    (hs : Box w bs 9 (.string s)) (hsep : Box w bsep 9 (.string ⟨#[c]⟩)) (hsv : Box w bsv 3 (.int .i64 0)) :
    SeqHas Tryz.prog 95 #[.pointer (some ⟨bsep, 0, none⟩), .pointer (some ⟨bs, 0, none⟩), .pointer (some ⟨bsv, 0, none⟩)] (fun x : ByteArray => #[.string x]) (splitBy c s)
      (fun k => k = bsep ∨ k = bs ∨ k = bsv) (fun k => k = bs) w := by
  intro l J Jx W hW hkeep hJ hJx hY h0
  have hs' : Box W bs 9 (.string s) := hs.same (hkeep _ (.inr (.inl rfl)))
  have hsep' : Box W bsep 9 (.string ⟨#[c]⟩) := hsep.same (hkeep _ (.inl rfl))
  have hsv' : Box W bsv 3 (.int .i64 0) := hsv.same (hkeep _ (.inr (.inr rfl)))
  have hb : w.heap.size ≤ W.heap.size := hW
  refine callsIn_of_wp Tryz.func95 rfl trivial ?_ rfl
  simp only [Tryz.ntmps95, List.size_toArray, List.length_cons, List.length_nil, Nat.reduceAdd, Nat.reduceSub, Array.replicate_succ, Array.replicate_zero, List.push_toArray, List.append_toArray, List.nil_append, List.cons_append]
  have hc1 := hsep'.cell
  have hone : (⟨#[c]⟩ : ByteArray).size = 1 := rfl
  gi_wp2_with fail
  gi_loopw [7, 8] (fun _ _ wr => ∃ (pre : List ByteArray) (rest : ByteArray), splitBy c s = pre ++ splitBy c rest ∧ rest.size ≤ 4294967280 ∧ J pre wr ∧ Box wr bs 9 (.string rest) ∧ Box wr bsep 9 (.string ⟨#[c]⟩) ∧ Box wr bsv 3 (.int .i64 0))
    (fun _ _ wr => textLeft wr bs)
  case atStart => exact ⟨[], s, rfl, hsz, h0, hs', hsep', hsv'⟩
  case round =>
    clear hc1
    obtain ⟨pre, rest, hx, hr, hJs, b1, b2, b3⟩ := hrel
    have HX := Lib.hid hx
    clear hx
    have d1 := b1.cell
    have d2 := b2.cell
    have d3 := b3.cell
    have hfin := b1.left
    have HL := Lib.hid hfin
    clear hfin
    rcases Lib.index_cases_one rest c with hi | ⟨i, hi, hlt⟩
    · have hsp := splitBy_miss hi
      obtain ⟨fn, tmps, assign, body, hy, hR⟩ := hY pre rest wr hJs (by rw [HX.out, hsp]; exact List.prefix_refl _)
      have HS := Lib.hid hsp
      clear hsp
      gi_wp2_with (refine ⟨trivial, rfl, ?_⟩; gi_at_call 97; refine (callsIn_wide.2 (Tryz.strings_Index_one rest c _)).mono ?_; rintro e w' ⟨rfl, rfl⟩)
      refine ⟨rfl, hR.mono ?_⟩
      rintro e W3 (⟨rfl, hJ3, _⟩ | ⟨rfl, hJx3⟩)
      · gi_wp2
        go_end0
        exact ⟨⟨_, rfl⟩, .inl (by rw [HX.out, HS.out]; exact hJ3)⟩
      · gi_wp2
        go_end0
        exact ⟨⟨_, rfl⟩, .inr ⟨_, by rw [HX.out, HS.out]; exact List.prefix_refl _, hJx3⟩⟩
    · have hsp := (splitBy_hit hi).2
      obtain ⟨fn, tmps, assign, body, hy, hR⟩ := hY pre (rest.extract 0 i) wr hJs (by rw [HX.out, hsp]; exact ⟨splitBy c (rest.extract (i + 1) rest.size), by simp⟩)
      have HS := Lib.hid hsp
      clear hsp
      gi_wp2_with (refine ⟨trivial, rfl, ?_⟩; gi_at_call 97; refine (callsIn_wide.2 (Tryz.strings_Index_one rest c _)).mono ?_; rintro e w' ⟨rfl, rfl⟩)
      refine ⟨rfl, hR.mono ?_⟩
      rintro e W3 (⟨rfl, hJ3, hz3, hk3⟩ | ⟨rfl, hJx3⟩)
      · have b1' := b1.same (hk3 bs (.inr (.inl rfl)))
        have b2' := b2.same (hk3 bsep (.inl rfl))
        have b3' := b3.same (hk3 bsv (.inr (.inr rfl)))
        have e1 := b1'.cell
        have e2 := b2'.cell
        have f1 := b1'.frozen
        have hW4 := hJ _ _ _ hJ3 (Moves.setCell (may := fun k => k = bs) (A := W3) (p := ⟨bs, 0, none⟩) rfl (.string (rest.extract (i + 1) rest.size)))
        have c1 := b1'.set (.string (rest.extract (i + 1) rest.size))
        have c2 := b2'.far (p := ⟨bs, 0, none⟩) h1 (.string (rest.extract (i + 1) rest.size))
        have c3 := b3'.far (p := ⟨bs, 0, none⟩) h2 (.string (rest.extract (i + 1) rest.size))
        gi_wp2
        go_roundw
        case rel => exact ⟨pre ++ [rest.extract 0 i], rest.extract (i + 1) rest.size, by rw [HX.out, HS.out]; simp, by simp; omega, hW4, c1, c2, c3⟩
        case measure => rw [c1.left, HL.out]; simp; omega
      · gi_wp2
        refine bodyPost_ret (results_none rfl _ _ _) rfl ?_
        exact ⟨⟨_, rfl⟩, .inr ⟨_, by rw [HX.out, HS.out]; exact ⟨splitBy c (rest.extract (i + 1) rest.size), by simp⟩, hJx3⟩⟩

set_option maxHeartbeats 1000000 in
theorem splitSeq_calls (s sep : ByteArray) (w : World) :
    Calls Tryz.prog 56 #[.string s, .string sep] w fun e w' =>
      e = .returned (.func (.func 95) #[] #[.pointer (some ⟨w.heap.size + 1, 0, none⟩), .pointer (some ⟨w.heap.size, 0, none⟩), .pointer (some ⟨w.heap.size + 2, 0, none⟩)]) ∧
      w' = ((w.alloc (.cells #[.string s] 9)).alloc (.cells #[.string sep] 9)).alloc (.cells #[.int .i64 0] 3) := by
  go_enter Tryz.func56, Tryz.ntmps56
  go_wp2
  go_ret
  exact ⟨rfl, rfl⟩

/-- 'for p := range strings.SplitSeq(s, c) { if !f(p) { return false } }; return true', f a function that computes. -/
def allM (f : ByteArray → Option Bool) : List ByteArray → Option Bool
  | [] => some true
  | x :: xs => (f x).bind fun b => if b = true then allM f xs else some false
theorem allM_cons {f : ByteArray → Option Bool} {x : ByteArray} {xs : List ByteArray} {r : Bool} (h : allM f (x :: xs) = some r) : ∃ b, f x = some b ∧ ((b = true ∧ allM f xs = some r) ∨ (b = false ∧ r = false)) := by
  unfold allM at h
  obtain ⟨b, hb, h⟩ := Option.bind_eq_some_iff.1 h
  refine ⟨b, hb, ?_⟩
  cases b with
  | true => exact .inl ⟨rfl, by simpa using h⟩
  | false => exact .inr ⟨rfl, by simpa using h.symm⟩
theorem allM_mono {f g : ByteArray → Option Bool} (h : ∀ x, LeO (f x) (g x)) : ∀ l, LeO (allM f l) (allM g l)
  | [] => LeO.refl _
  | x :: xs => LeO.bind (h x) fun b => LeO.ite (allM_mono h xs) (LeO.refl _)
end Go.Proofs.YtnfiigjignpkaaaGreatDoor

/- files.Path: a range over strings.SplitSeq. -/
namespace Go.Proofs.YtnfiigjignpkaaaGreatDoor
open Go Go.RowKit Go.Shelf Go.Proofs.YtnfiigjignpkaaaGreatDoorW.PrintWords Go.Proofs.YtnfiigjignpkaaaGreatDoor.K0 Go.Proofs.YtnfiigjignpkaaaGreatDoor.R1
attribute [local go_sem] Oper.semAt_some
set_option linter.unusedVariables false
set_option linter.unusedSimpArgs false

def files_Path.f (k : Nat) (a0 : ByteArray) : Option Bool := if (a0.size : Int) > 60 then some false else allM (files_part.f k) (splitBy 47 a0)
theorem files_Path.mono : ∀ a0 k, LeO (files_Path.f k a0) (files_Path.f (k + 1) a0) := fun a0 k => LeO.ite (LeO.refl _) (allM_mono (fun x => files_part.mono x k) _)

set_option maxRecDepth 100000 in
set_option maxHeartbeats 4000000 in
theorem files_Path.calls (k : Nat) (a0 : ByteArray) (r : Bool) (w : World) (h : files_Path.f k a0 = some r) :
    Calls Tryz.prog 44 #[.string a0] w fun e w' => e = .returned (.bool r) ∧ Below w.heap.size w w' := by
  unfold files_Path.f at h
  refine (callsIn_wide (n := 0)).1 ?_
  refine callsIn_of_wp_marks Tryz.func44 rfl trivial ?_ rfl
  simp only [Tryz.ntmps44, List.size_toArray, List.length_cons, List.length_nil, Nat.reduceAdd, Nat.reduceSub, Array.replicate_succ, Array.replicate_zero, List.push_toArray, List.append_toArray, List.nil_append, List.cons_append]
  by_cases hsz : (a0.size : Int) > 60
  · rw [if_pos hsz] at h
    obtain rfl := Option.some.inj h
    gi_wp2
    exact leave_plain (results_cell1 (a := ⟨w.heap.size, 0, none⟩) rfl rfl Tryz.isAgg4 (Box.new w 4 _).cell) ⟨rfl, (Below.refl _ _).alloc (Nat.le_refl _) _⟩
  · rw [if_neg hsz] at h
    have hsz' : a0.size ≤ 60 := by omega
    have H := Lib.hid h
    clear h
    gi_wp2_with (refine ⟨trivial, rfl, ?_⟩; gi_at_call 56; refine (callsIn_wide.2 (splitSeq_calls _ _ _)).mono ?_; rintro e w' ⟨rfl, rfl⟩)
    obtain ⟨w3, hw3⟩ : ∃ w3, (((w.alloc (.cells #[.bool false] 4)).alloc (.cells #[.string a0] 9)).alloc (.cells #[.string ⟨#[47]⟩] 9)).alloc (.cells #[.int .i64 0] 3) = w3 := ⟨_, rfl⟩
    have hs3 : w3.heap.size = w.heap.size + 4 := by rw [← hw3]; simp
    have x0 : Box w3 w.heap.size 4 (.bool false) := by rw [← hw3]; exact (((Box.new w _ _).alloc _).alloc _).alloc _
    have x1 : Box w3 (w.heap.size + 1) 9 (.string a0) := by rw [← hw3]; have := ((Box.new (w.alloc (.cells #[.bool false] 4)) 9 (.string a0)).alloc (.cells #[.string ⟨#[47]⟩] 9)).alloc (.cells #[.int .i64 0] 3); simpa using this
    have x2 : Box w3 (w.heap.size + 1 + 1) 9 (.string ⟨#[47]⟩) := by rw [← hw3]; have := (Box.new ((w.alloc (.cells #[.bool false] 4)).alloc (.cells #[.string a0] 9)) 9 (.string ⟨#[47]⟩)).alloc (.cells #[.int .i64 0] 3); simpa using this
    have x3 : Box w3 (w.heap.size + 1 + 2) 3 (.int .i64 0) := by rw [← hw3]; have := Box.new (((w.alloc (.cells #[.bool false] 4)).alloc (.cells #[.string a0] 9)).alloc (.cells #[.string ⟨#[47]⟩] 9)) 3 (.int .i64 0); simpa using this
    have hb3 : Below w.heap.size w w3 := by rw [← hw3]; exact ((((Below.refl _ _).alloc (Nat.le_refl _) _).alloc (by simp) _).alloc (by simp; omega) _).alloc (by simp; omega) _
    rw [hw3]
    clear hw3
    refine range_law (gf := 95) (lb := #[.pointer (some ⟨w.heap.size + 1 + 1, 0, none⟩), .pointer (some ⟨w.heap.size + 1, 0, none⟩), .pointer (some ⟨w.heap.size + 1 + 2, 0, none⟩)]) rfl (enters_of Tryz.func95 (by kernel_rfl) rfl)
      (splitSeq_has 47 a0 _ _ _ w3 (by omega) (by omega) (by omega) x1 x2 x3) (fun k hk => by omega) (fun k hk => by omega) (fun _ => rfl)
      (fun k => k = w.heap.size) (fun k hk => ⟨by omega, by omega⟩)
      (fun pre W => (∃ rest, splitBy 47 a0 = pre ++ rest ∧ allM (files_part.f k) rest = some r) ∧ Box W w.heap.size 4 (.bool false) ∧ Below w.heap.size w W)
      (fun c pre W => c = .ret ∧ Box W w.heap.size 4 (.bool false) ∧ r = false ∧ Below w.heap.size w W) ?_ ?_ ?_ (fun l x W a' W' => a' = { tmps := #[.string a0, undef, .pointer (some ⟨w.heap.size, 0, none⟩), .string x, .string a0, .int .i64 a0.size, .bool false, .string a0, .func (.func 95) #[] #[.pointer (some ⟨w.heap.size + 1 + 1, 0, none⟩), .pointer (some ⟨w.heap.size + 1, 0, none⟩), .pointer (some ⟨w.heap.size + 1 + 2, 0, none⟩)], .string x, undef, undef, undef], defers := [] } ∧ W' = W) ?_ ?_ ?_ ?_ ?_
    · rintro s A B ⟨h1, h2, h3⟩ hs hm
      exact ⟨h1, h2.moves hm (by omega), below_moves h3 (Nat.le_refl _) hm (fun k hk => by omega)⟩
    · rintro c s A B ⟨h0, h2, h1, h3⟩ hs hm
      exact ⟨h0, h2.moves hm (by omega), h1, below_moves h3 (Nat.le_refl _) hm (fun k hk => by omega)⟩
    · exact ⟨⟨_, rfl, H.out⟩, x0, hb3⟩
    · intro l x W K hW hK
      gi_wp2
      all_goals exact hK _ _ ⟨rfl, rfl⟩
    · rintro l x W a' W' ⟨_, rfl⟩
      exact Moves.refl _ _
    · rintro l pre x W W1 W2 a' hW ⟨⟨rest, hx, hr⟩, hb0, hbl⟩ hpre ⟨rfl, rfl⟩ hm2 hl hlt
      obtain ⟨t, ht⟩ := hpre
      obtain rfl : rest = x :: t := by rw [hx, List.append_assoc] at ht; exact (List.append_cancel_left ht).symm
      obtain ⟨b, hb, hr⟩ := allM_cons hr
      have y0 := hb0.moves hm2 (by omega)
      have yl := below_moves hbl (Nat.le_refl _) hm2 (fun k hk => by omega)
      clear hbl hb0 hm2
      have HX := Lib.hid hx
      have HR := Lib.hid hr
      have HB := Lib.hid hb
      clear hx hr hb ht
      have y1 := y0.cell
      have y2 := y0.frozen
      cases b with
      | true =>
        gi_wp2_with (refine ⟨trivial, rfl, ?_⟩; gi_at_call 57; refine (CallsIn.inRound l (callsIn_wide.2 (files_part.calls k x true _ HB.out))).mono ?_; rintro e w' ⟨rfl, ⟨nd, rfl⟩⟩)
        refine ⟨Moves.drewN _ _ _, ⟨t, by rw [HX.out]; simp, ?_⟩, y0, pw_below_drewN yl _⟩
        rcases HR.out with ⟨_, h⟩ | ⟨h, _⟩
        · exact h
        · cases h
      | false =>
        gi_wp2_with (refine ⟨trivial, rfl, ?_⟩; gi_at_call 57; refine (CallsIn.inRound l (callsIn_wide.2 (files_part.calls k x false _ HB.out))).mono ?_; rintro e w' ⟨rfl, ⟨nd, rfl⟩⟩)
        refine ⟨(Moves.drewN _ _ _).trans (Moves.setCell (may := fun k => k = w.heap.size) (p := ⟨w.heap.size, 0, none⟩) rfl _), rfl, ?_, ?_, ?_⟩
        · exact Box.set (v := .bool false) (show Box (W2.drewN nd) _ _ _ from y0) _
        · rcases HR.out with ⟨h, _⟩ | ⟨_, h⟩
          · cases h
          · exact h
        · exact (pw_below_drewN yl _).setCell (p := ⟨w.heap.size, 0, none⟩) (Nat.le_refl _) _
    · rintro D W ⟨⟨rest, hx, hr⟩, hb0, hbl⟩ hD hDn
      obtain rfl : rest = [] := by
        have := congrArg List.length hx
        rw [List.length_append] at this
        exact List.eq_nil_of_length_eq_zero (by omega)
      obtain rfl : true = r := by simpa [allM] using hr
      clear hx hr
      have y1 := hb0.cell
      have y2 := hb0.frozen
      gi_wp2
      have hD' : (W.setCell ⟨w.heap.size, 0, none⟩ (.bool true)).heap[D]? = some (.deferred (some [])) := (Below.heap_setCell W _ _ D (by show D ≠ w.heap.size; omega)).trans hD
      refine leave_marked hD' (results_cell1 (a := ⟨w.heap.size, 0, none⟩) rfl rfl Tryz.isAgg4 ((hb0.set (.bool true)).putObj (by omega)).cell) ⟨rfl, ?_⟩
      exact below_moves (hbl.setCell (p := ⟨w.heap.size, 0, none⟩) (Nat.le_refl _) _) (Nat.le_refl _) (Moves.putObj (may := fun k => k = D) rfl _) (fun k hk => by omega)
    · rintro D c pre W hpre ⟨rfl, hb0, rfl, hbl⟩ hD hDn
      gi_wp2
      refine leave_marked hD (results_cell1 (a := ⟨w.heap.size, 0, none⟩) rfl rfl Tryz.isAgg4 (hb0.putObj (by omega)).cell) ⟨rfl, ?_⟩
      exact below_moves hbl (Nat.le_refl _) (Moves.putObj (may := fun k => k = D) rfl _) (fun k hk => by omega)
end Go.Proofs.YtnfiigjignpkaaaGreatDoor
