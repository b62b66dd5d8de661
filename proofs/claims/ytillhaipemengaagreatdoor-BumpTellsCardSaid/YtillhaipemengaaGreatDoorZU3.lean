/- The texts Range, WRepsOne, WEqStruct in one file, without what these claims do not use (put together by prune2.py). -/
import Derived.RangeFuncNested
import Derived.RangeFuncBound
import Derived.RangeFuncCalls
import Derived.RangeFuncLeaves
import Derived.Below
import Derived.Deep.Draws
import Derived.Test.YtillhaipemengaaGreatDoorZU0
import Derived.Laws.StructEq
section
namespace Go.Proofs.YtillhaipemengaaGreatDoor
open Go Go.RowKit
/-- From A to B: no block is gone, and of A's blocks only those that 'may' have turned. -/
structure Moves (may : Nat → Prop) (A B : World) : Prop where
  size : A.heap.size ≤ B.heap.size
  block : ∀ k, k < A.heap.size → ¬ may k → B.heap[k]? = A.heap[k]?
  os : B.os = A.os
  tape : B.tape = A.tape
  output : B.output = A.output
theorem Moves.refl (may : Nat → Prop) (A : World) : Moves may A A := ⟨Nat.le_refl _, fun _ _ _ => rfl, rfl, rfl, rfl⟩
theorem Moves.trans {may : Nat → Prop} {A B C : World} (h : Moves may A B) (k : Moves may B C) : Moves may A C :=
  ⟨Nat.le_trans h.size k.size, fun i hi hm => (k.block i (Nat.lt_of_lt_of_le hi h.size) hm).trans (h.block i hi hm), k.os.trans h.os, k.tape.trans h.tape, k.output.trans h.output⟩
theorem Moves.mono {may may' : Nat → Prop} {A B : World} (h : Moves may A B) (hm : ∀ k, may k → may' k) : Moves may' A B :=
  ⟨h.size, fun k hk hn => h.block k hk (fun e => hn (hm k e)), h.os, h.tape, h.output⟩
theorem Moves.of_below {may : Nat → Prop} {A B : World} (h : Below A.heap.size A B) : Moves may A B := ⟨h.size, fun k hk _ => h.block k hk, h.os, h.tape, h.output⟩
theorem Moves.drewN (may : Nat → Prop) (A : World) (n : Nat) : Moves may A (A.drewN n) := ⟨Nat.le_refl _, fun _ _ _ => rfl, rfl, rfl, rfl⟩
theorem Moves.setCell {may : Nat → Prop} {A : World} {p : Addr} (hp : may p.block) (v : Value) : Moves may A (A.setCell p v) :=
  ⟨by simp [World.setCell], fun k _ hm => Below.heap_setCell A p v k (fun e => hm (e ▸ hp)), rfl, rfl, rfl⟩
theorem Moves.alloc (may : Nat → Prop) (A : World) (o : Obj) : Moves may A (A.alloc o) :=
  ⟨by simp, fun k hk _ => Below.heap_alloc A o k hk, rfl, rfl, rfl⟩
theorem Moves.putObj {may : Nat → Prop} {A : World} {l : Nat} (hl : may l) (o : Obj) : Moves may A (A.putObj l o) :=
  ⟨by simp, fun k _ hm => World.putObj_heap_other (fun e => hm (e ▸ hl)), rfl, rfl, rfl⟩
theorem below_moves {n : Nat} {p : Nat → Prop} {w A B : World} (h : Below n w A) (hn : n ≤ w.heap.size) (hm : Moves p A B) (hp : ∀ k, p k → n ≤ k) : Below n w B :=
  ⟨hm.os.trans h.os, hm.tape.trans h.tape, hm.output.trans h.output, Nat.le_trans h.size hm.size, fun k hk => (hm.block k (by have := h.size; omega) (fun e => by have := hp k e; omega)).trans (h.block k hk)⟩
/-- What an iterator promises: xs, one by one, or as many as the loop takes; it leans on the blocks 'keep', and turns of the elder ones 'may' alone. -/
def SeqHas {α : Type} (P : Program) (gf : Nat) (lb : Array Value) (encs : α → Array Value) (xs : List α) (keep may : Nat → Prop) (w : World) : Prop :=
  ∀ (l : Nat) (J Jx : List α → World → Prop) (W : World), w.heap.size ≤ W.heap.size → (∀ k, keep k → W.heap[k]? = w.heap[k]?) →
    (∀ s A B, J s A → Moves may A B → J s B) → (∀ s A B, Jx s A → Moves may A B → Jx s B) →
    (∀ pre x W1, J pre W1 → (pre ++ [x]) <+: xs → YieldAt Fence.wide 0 P l (encs x) W1 fun e W' =>
      (e = .returned (.bool true) ∧ J (pre ++ [x]) W' ∧ W1.heap.size ≤ W'.heap.size ∧ ∀ k, keep k → W'.heap[k]? = W1.heap[k]?) ∨ (e = .returned (.bool false) ∧ Jx (pre ++ [x]) W')) →
    J [] W →
    CallsIn Fence.wide 0 P gf (#[.func (.yield l) #[] #[]] ++ lb) W fun e W' => (∃ v, e = .returned v) ∧ (J xs W' ∨ ∃ pre, pre <+: xs ∧ Jx pre W')
/-- How a round's body is left. -/
def BodyPost {α : Type} (mine : Nat → Prop) (I : List α → World → Prop) (Ix : Code → List α → World → Prop) (xs : List α) (W : World) : Exit → Act → World → Prop
  | .normal, _, W' => Moves mine W W' ∧ I xs W'
  | .ret, _, W' => Moves mine W W' ∧ Ix .ret xs W'
  | .exit id, _, W' => Moves mine W W' ∧ Ix (.exit id) xs W'
  | .goto t, _, W' => Moves mine W W' ∧ Ix (.goto t) xs W'
  | .panic _, _, _ => False
  | .outgrown, _, _ => False
/-- 'for .. := range g { .. }' outside of any other such loop. The body may turn all but what the iterator leans on and the loop's own two blocks. The assignment's world may move ('A' says what it leaves). -/
theorem range_law2 {α : Type} {P : Program} {g : Operand} {ps : Array Tmp} {assign body : Code} {Q : Exit → Act → World → Prop} {a : Act} {w : World}
    {gf : Nat} {lb : Array Value} (hg : a.eval g = .func (.func gf) #[] lb) (eg : ∀ args w, (callFunc gf args).run P w = .ok (.enter gf args) w)
    {encs : α → Array Value} {xs : List α} {keep may : Nat → Prop} (hseq : SeqHas P gf lb encs xs keep may w)
    (hkeep : ∀ k, keep k → k < w.heap.size) (hmay : ∀ k, may k → k < w.heap.size) (hps : ∀ x, (encs x).size = ps.size)
    (mine : Nat → Prop) (hmine : ∀ k, mine k → ¬ keep k ∧ k ≠ w.heap.size ∧ k ≠ w.heap.size + 1)
    (I : List α → World → Prop) (Ix : Code → List α → World → Prop)
    (hI : ∀ s A B, I s A → w.heap.size ≤ A.heap.size → Moves (fun k => may k ∨ k = w.heap.size ∨ k = w.heap.size + 1) A B → I s B)
    (hIx : ∀ c s A B, Ix c s A → w.heap.size ≤ A.heap.size → Moves (fun k => may k ∨ k = w.heap.size ∨ k = w.heap.size + 1) A B → Ix c s B)
    (h0 : I [] w) (A : Nat → α → World → Act → World → Prop)
    (hassign : ∀ (l : Nat) (x : α) (W : World) (K : Act → World → Prop), w.heap.size ≤ W.heap.size → (∀ a' W', A l x W a' W' → K a' W') →
      assign.wpIn (Fence.wide.inRound l) 0 P (Exit.then K (fun _ _ _ => False)) { tmps := (ps.zip (encs x)).foldl (fun t (p, v) => t.setIfInBounds p v) a.tmps, defers := [] } W)
    (hA : ∀ l x W a' W', A l x W a' W' → Moves mine W W')
    (hbody : ∀ (l : Nat) (pre : List α) (x : α) (W W1 W2 : World) (a' : Act), w.heap.size ≤ W.heap.size → I pre W → (pre ++ [x]) <+: xs → A l x W a' W1 → Moves (fun k => k = l) W1 W2 → l = w.heap.size + 1 → l < W.heap.size →
      body.wpIn (Fence.wide.inRound l) 0 P (BodyPost mine I Ix (pre ++ [x]) W2) a' W2)
    (hdone : ∀ (D : Nat) (W : World), I xs W → W.heap[D]? = some (.deferred (some [])) → D = w.heap.size → Q .normal { a with defers := { target := .collected D, args := #[] } :: a.defers } W)
    (hstop : ∀ (D : Nat) (c : Code) (pre : List α) (W : World), pre <+: xs → Ix c pre W → W.heap[D]? = some (.deferred (some [])) → D = w.heap.size →
      c.wpIn Fence.wide 0 P Q { a with defers := { target := .collected D, args := #[] } :: a.defers } W) :
    (Code.rangeFunc g ps assign body).wpIn Fence.wide 0 P Q a w := by
  refine wpIn_rangeFunc ?_
  intro fn _
  obtain ⟨rec, hrec⟩ : ∃ rec : LoopState → Option Code → Loop, rec = fun st pe => { state := st, pending := pe, fn, tmps := a.tmps, params := ps, assign, body, defers := w.heap.size } := ⟨_, rfl⟩
  obtain ⟨W0, hW0⟩ : ∃ W0, (w.alloc (.deferred (some []))).alloc (.loop (rec .ready none)) = W0 := ⟨_, rfl⟩
  have hsz : W0.heap.size = w.heap.size + 2 := by rw [← hW0]; simp
  have hM0 : ∀ p : Nat → Prop, Moves p w W0 := fun p => by rw [← hW0]; exact (Moves.alloc _ _ _).trans (Moves.alloc _ _ _)
  have hL0 : W0.heap[w.heap.size + 1]? = some (.loop (rec .ready none)) := by
    rw [← hW0]; have := World.alloc_heap_new (w.alloc (.deferred (some []))) (.loop (rec .ready none)); rwa [World.size_alloc] at this
  have hD0 : W0.heap[w.heap.size]? = some (.deferred (some [])) := by
    rw [← hW0]; exact (Below.heap_alloc _ _ _ (by simp)).trans (World.alloc_heap_new w _)
  have hnm : ∀ j, ¬ may (w.heap.size + j) := fun j h => by have := hmay _ h; omega
  have hnk : ∀ j, ¬ keep (w.heap.size + j) := fun j h => by have := hkeep _ h; omega
  have hni : ∀ j, j < 2 → ¬ mine (w.heap.size + j) := fun j hj h => by
    obtain ⟨_, h1, h2⟩ := hmine _ h
    omega
  have hstay : ∀ {p : Nat → Prop} {A B : World} {k : Nat} {o : Obj}, Moves p A B → ¬ p k → A.heap[k]? = some o → B.heap[k]? = some o :=
    fun hm hp ho => (hm.block _ (Array.getElem?_eq_some_iff.1 ho).1 hp).trans ho
  have hlt : ∀ {A : World} {k : Nat} {o : Obj}, A.heap[k]? = some o → k < A.heap.size := fun ho => (Array.getElem?_eq_some_iff.1 ho).1
  have hput : ∀ (W : World) (o : Obj), Moves (fun k => may k ∨ k = w.heap.size ∨ k = w.heap.size + 1) W (W.putObj (w.heap.size + 1) o) := fun W o => Moves.putObj (.inr (.inr rfl)) o
  refine ⟨w.heap.size + 1, [{ target := .collected w.heap.size, args := #[] }], W0, { target := .fn (.func gf) lb, args := #[.func (.yield (w.heap.size + 1)) #[] #[]] }, W0, gf,
    #[.func (.yield (w.heap.size + 1)) #[] #[]] ++ lb, W0, ?_, ?_, fun f' hf' => trivial, ?_, fun h => by simp [Fence.wide] at h, ?_⟩
  · rw [← hW0, hrec]; exact run_enterLoop_outer _ _ _ _ _
  · simp only [resolve, hg]
    simp [go_sem]
  · simp [invoke, go_sem, eg]
  · refine (hseq (w.heap.size + 1)
      (fun pre W => I pre W ∧ W.heap[w.heap.size + 1]? = some (.loop (rec .ready none)) ∧ W.heap[w.heap.size]? = some (.deferred (some [])))
      (fun pre W => ∃ c, Ix c pre W ∧ W.heap[w.heap.size + 1]? = some (.loop (rec .done (some c))) ∧ W.heap[w.heap.size]? = some (.deferred (some [])))
      W0 (by omega) (fun k hk => (hM0 fun _ => False).block k (hkeep k hk) (fun h => h)) ?_ ?_ ?_ ?_).mono ?_
    · rintro s A B ⟨h1, h2, h3⟩ hm
      exact ⟨hI s A B h1 (by have := hlt h2; omega) (hm.mono fun k hk => .inl hk), hstay hm (hnm 1) h2, hstay hm (hnm 0) h3⟩
    · rintro s A B ⟨c, h1, h2, h3⟩ hm
      exact ⟨c, hIx c s A B h1 (by have := hlt h2; omega) (hm.mono fun k hk => .inl hk), hstay hm (hnm 1) h2, hstay hm (hnm 0) h3⟩
    · rintro pre x W ⟨hi, hl, hd⟩ hpre
      have hwl := hlt hl
      have hy := run_yield (P := P) (args := encs x) hl (by rw [hrec]; exact hps x)
      rw [hrec] at hy
      refine ⟨fn, _, assign, body, hy, roundIn_of_wpIn trivial (hassign _ x W _ (by omega) fun a' W1 ha => ?_)⟩
      have hm1 := hA _ _ _ _ _ ha
      have hl1 := hstay hm1 (hni 1 (by decide)) hl
      have hd1 := hstay hm1 (hni 0 (by decide)) hd
      refine ⟨_, run_beginRound hl1 (by rw [hrec]), ?_⟩
      obtain ⟨W2, hW2⟩ : ∃ W2, W1.putObj (w.heap.size + 1) (.loop { rec .ready none with state := .busy }) = W2 := ⟨_, rfl⟩
      have hl2 : W2.heap[w.heap.size + 1]? = some (.loop { rec .ready none with state := .busy }) := by rw [← hW2]; exact World.putObj_heap_same (hlt hl1)
      have hd2 : W2.heap[w.heap.size]? = some (.deferred (some [])) := by rw [← hW2]; exact (World.putObj_heap_other (by omega)).trans hd1
      have hm2 : Moves (fun k => k = w.heap.size + 1) W1 W2 := by rw [← hW2]; exact Moves.putObj (may := fun k => k = w.heap.size + 1) rfl _
      rw [hW2]
      have fin : ∀ (jump : Option Code) (W3 : World), Moves mine W2 W3 →
          (Instr.endRound (w.heap.size + 1) jump).run P W3 = .ok (.bool jump.isNone) (W3.putObj (w.heap.size + 1) (.loop (rec (if jump.isNone then .ready else .done) jump))) ∧
          (W3.putObj (w.heap.size + 1) (.loop (rec (if jump.isNone then .ready else .done) jump))).heap[w.heap.size + 1]? = some (.loop (rec (if jump.isNone then .ready else .done) jump)) ∧
          (W3.putObj (w.heap.size + 1) (.loop (rec (if jump.isNone then .ready else .done) jump))).heap[w.heap.size]? = some (.deferred (some [])) ∧ w.heap.size + 1 < W3.heap.size := fun jump W3 hm3 => by
        have hl3 := hstay hm3 (hni 1 (by decide)) hl2
        have hd3 := hstay hm3 (hni 0 (by decide)) hd2
        have he := run_endRound (P := P) jump hl3
        rw [hrec] at he ⊢
        exact ⟨he, World.putObj_heap_same (hlt hl3), (World.putObj_heap_other (by omega)).trans hd3, hlt hl3⟩
      refine wpIn_mono (hbody _ pre x W W1 W2 a' (by omega) hi hpre ha hm2 rfl hwl) ?_
      rintro e a3 W3 hp
      cases e with
      | normal =>
        obtain ⟨hm3, hi3⟩ := hp
        obtain ⟨he, hl4, hd4, hs3⟩ := fin none W3 hm3
        refine ⟨_, _, he, .inl ⟨rfl, ⟨hI _ _ _ hi3 (by omega) (hput _ _), hl4, hd4⟩, ?_, fun k hk => ?_⟩⟩
        · have := hm1.size; have := hm2.size; have := hm3.size; simp; omega
        · have hkw := hkeep k hk
          have hkm : ¬ mine k := fun h => (hmine k h).1 hk
          have s1 := hm1.size; have s2 := hm2.size
          exact (World.putObj_heap_other (by omega)).trans ((hm3.block k (by omega) hkm).trans ((hm2.block k (by omega) (by omega)).trans (hm1.block k (by omega) hkm)))
      | ret =>
        obtain ⟨hm3, hi3⟩ := hp
        obtain ⟨he, hl4, hd4, hs3⟩ := fin (some .ret) W3 hm3
        exact ⟨_, _, he, .inr ⟨rfl, .ret, hIx _ _ _ _ hi3 (by omega) (hput _ _), hl4, hd4⟩⟩
      | exit id =>
        obtain ⟨hm3, hi3⟩ := hp
        obtain ⟨he, hl4, hd4, hs3⟩ := fin (some (.exit id)) W3 hm3
        exact ⟨_, _, he, .inr ⟨rfl, .exit id, hIx _ _ _ _ hi3 (by omega) (hput _ _), hl4, hd4⟩⟩
      | goto t =>
        obtain ⟨hm3, hi3⟩ := hp
        obtain ⟨he, hl4, hd4, hs3⟩ := fin (some (.goto t)) W3 hm3
        exact ⟨_, _, he, .inr ⟨rfl, .goto t, hIx _ _ _ _ hi3 (by omega) (hput _ _), hl4, hd4⟩⟩
      | panic ch => exact hp.elim
      | outgrown => exact hp.elim
    · exact ⟨hI _ _ _ h0 (Nat.le_refl _) (hM0 _), hL0, hD0⟩
    · rintro e W2 ⟨⟨v, rfl⟩, (⟨hi, hl, hd⟩ | ⟨pre, hpre, c, hi, hl, hd⟩)⟩
      · refine ⟨none, _, by have := run_endLoop (P := P) hl (by rw [hrec]; simp); rw [hrec] at this; exact this, hdone _ _ (hI _ _ _ hi (by have := hlt hl; omega) (hput _ _)) ((World.putObj_heap_other (by omega)).trans hd) rfl⟩
      · exact ⟨some c, _, by have := run_endLoop (P := P) hl (by rw [hrec]; simp); rw [hrec] at this; exact this, hstop _ c pre _ hpre (hIx _ _ _ _ hi (by have := hlt hl; omega) (hput _ _)) ((World.putObj_heap_other (by omega)).trans hd) rfl⟩
/-- 'for .. := range g { .. }' outside of any other such loop. The assignment's world may move ('A' says what it leaves). -/
theorem range_law {α : Type} {P : Program} {g : Operand} {ps : Array Tmp} {assign body : Code} {Q : Exit → Act → World → Prop} {a : Act} {w : World}
    {gf : Nat} {lb : Array Value} (hg : a.eval g = .func (.func gf) #[] lb) (eg : ∀ args w, (callFunc gf args).run P w = .ok (.enter gf args) w)
    {encs : α → Array Value} {xs : List α} {keep may : Nat → Prop} (hseq : SeqHas P gf lb encs xs keep may w)
    (hkeep : ∀ k, keep k → k < w.heap.size) (hmay : ∀ k, may k → k < w.heap.size) (hps : ∀ x, (encs x).size = ps.size)
    (mine : Nat → Prop) (hmine : ∀ k, mine k → k < w.heap.size ∧ ¬ keep k)
    (I : List α → World → Prop) (Ix : Code → List α → World → Prop)
    (hI : ∀ s A B, I s A → w.heap.size ≤ A.heap.size → Moves (fun k => may k ∨ w.heap.size ≤ k) A B → I s B)
    (hIx : ∀ c s A B, Ix c s A → w.heap.size ≤ A.heap.size → Moves (fun k => may k ∨ w.heap.size ≤ k) A B → Ix c s B)
    (h0 : I [] w) (A : Nat → α → World → Act → World → Prop)
    (hassign : ∀ (l : Nat) (x : α) (W : World) (K : Act → World → Prop), w.heap.size ≤ W.heap.size → (∀ a' W', A l x W a' W' → K a' W') →
      assign.wpIn (Fence.wide.inRound l) 0 P (Exit.then K (fun _ _ _ => False)) { tmps := (ps.zip (encs x)).foldl (fun t (p, v) => t.setIfInBounds p v) a.tmps, defers := [] } W)
    (hA : ∀ l x W a' W', A l x W a' W' → Moves mine W W')
    (hbody : ∀ (l : Nat) (pre : List α) (x : α) (W W1 W2 : World) (a' : Act), w.heap.size ≤ W.heap.size → I pre W → (pre ++ [x]) <+: xs → A l x W a' W1 → Moves (fun k => k = l) W1 W2 → w.heap.size ≤ l → l < W.heap.size →
      body.wpIn (Fence.wide.inRound l) 0 P (BodyPost mine I Ix (pre ++ [x]) W2) a' W2)
    (hdone : ∀ (D : Nat) (W : World), I xs W → W.heap[D]? = some (.deferred (some [])) → w.heap.size ≤ D → Q .normal { a with defers := { target := .collected D, args := #[] } :: a.defers } W)
    (hstop : ∀ (D : Nat) (c : Code) (pre : List α) (W : World), pre <+: xs → Ix c pre W → W.heap[D]? = some (.deferred (some [])) → w.heap.size ≤ D →
      c.wpIn Fence.wide 0 P Q { a with defers := { target := .collected D, args := #[] } :: a.defers } W) :
    (Code.rangeFunc g ps assign body).wpIn Fence.wide 0 P Q a w := by
  refine range_law2 hg eg hseq hkeep hmay hps mine (fun k hk => ?_) I Ix (fun s A B h hs hm => hI s A B h hs (hm.mono fun k hk => ?_)) (fun c s A B h hs hm => hIx c s A B h hs (hm.mono fun k hk => ?_)) h0 A hassign hA (fun l pre x W W1 W2 a' h1 h2 h3 h4 h5 h6 h7 => hbody l pre x W W1 W2 a' h1 h2 h3 h4 h5 (by omega) h7) (fun D W h1 h2 h3 => hdone D W h1 h2 (by omega)) (fun D c pre W h1 h2 h3 h4 => hstop D c pre W h1 h2 h3 (by omega))
  · have := hmine k hk
    exact ⟨this.2, by omega, by omega⟩
  · rcases hk with hk | hk | hk
    · exact .inl hk
    · exact .inr (by omega)
    · exact .inr (by omega)
  · rcases hk with hk | hk | hk
    · exact .inl hk
    · exact .inr (by omega)
    · exact .inr (by omega)
section
variable {P : Program} {fn : Func} {tmps : Array Value} {R : Ending → World → Prop} {w : World} {v : Value}
theorem leave_plain (hr : (results fn tmps).run P w = .ok v w) (hR : R (.returned v) w) : bodyPostM Fence.wide 0 P fn R .ret { tmps := tmps, defers := [] } w := ⟨v, hr, hR⟩
theorem leave_marked {D : Nat} (hd : w.heap[D]? = some (.deferred (some []))) (hr : (results fn tmps).run P (w.putObj D (.deferred none)) = .ok v (w.putObj D (.deferred none))) (hR : R (.returned v) (w.putObj D (.deferred none))) :
    bodyPostM Fence.wide 0 P fn R .ret { tmps := tmps, defers := [{ target := .collected D, args := #[] }] } w :=
  ⟨by simp, .inl ⟨_, _, rfl, run_takeDeferred hd, v, hr, hR⟩⟩
/-- One result that is a variable of one cell. -/
theorem results_cell1 {p : Tmp} {ty : TypeId} {a : Addr} (h : fn.results = #[.cell p ty]) (hp : tmps.getD p undef = .pointer (some a)) (ha : ∀ w, (isAgg ty).run P w = .ok false w) (hc : w.cell? a = some v) :
    (results fn tmps).run P w = .ok v w := by
  have hp' : tmps[p]?.getD undef = .pointer (some a) := by simpa using hp
  have hl : (loadVar ty a).run P w = .ok v w := by simp [loadVar, go_sem, ha, hc, Result.andThen]
  simp [results, h, hp', asAddr, hl]
theorem cell_putObj {W : World} {D : Nat} {o : Obj} {p : Addr} {u : Value} (hp : p.block ≠ D) (hc : W.cell? p = some u) : (W.putObj D o).cell? p = some u :=
  (World.cell?_of_block (w := W) (World.putObj_heap_other hp)).trans hc
end
end Go.Proofs.YtillhaipemengaaGreatDoor
end

section
namespace Go.Proofs.YtillhaipemengaaGreatDoorW.PrintWords
theorem Reps.one {α : Type} {R : α → List Value → Prop} {ps : List α} {cs : List Value} {p : α} {v : Value} (hp : R p [v]) (h : Reps R 1 ps cs) : Reps R 1 (p :: ps) (v :: cs) := by
  refine ⟨by simp [h.1], fun j q hq => ?_⟩
  cases j with
  | zero =>
    simp only [List.getElem?_cons_zero, Option.some.injEq] at hq
    subst hq
    simpa using hp
  | succ j =>
    simp only [List.getElem?_cons_succ] at hq
    have h1 := h.2 j q hq
    simpa [Nat.mul_one] using h1
theorem Reps.front {α : Type} {R : α → List Value → Prop} {size : Nat} {ps : List α} {cs c all : List Value} {p : α} (hp : R p c) (hc : c.length = size) (h : Reps R size ps cs) (ha : c ++ cs = all) : Reps R size (p :: ps) all := by
  subst ha
  refine ⟨by rw [List.length_append, hc, h.1, List.length_cons, Nat.succ_mul, Nat.add_comm], fun j q hq => ?_⟩
  cases j with
  | zero =>
    simp only [List.getElem?_cons_zero, Option.some.injEq] at hq
    subst hq
    rw [Nat.zero_mul, List.drop_zero, List.take_append_of_le_length (by omega), List.take_of_length_le (by omega)]
    exact hp
  | succ j =>
    simp only [List.getElem?_cons_succ] at hq
    have h1 := h.2 j q hq
    rw [Nat.succ_mul, List.drop_append, List.drop_of_length_le (by rw [hc]; exact Nat.le_add_left _ _), List.nil_append, hc, Nat.add_sub_cancel]
    exact h1
theorem Reps.c2 {α : Type} {R : α → List Value → Prop} {ps : List α} {cs : List Value} {p : α} {va vb : Value} (hp : R p [va, vb]) (h : Reps R 2 ps cs) : Reps R 2 (p :: ps) (va :: vb :: cs) := Reps.front hp rfl h rfl
theorem Reps.c3 {α : Type} {R : α → List Value → Prop} {ps : List α} {cs : List Value} {p : α} {va vb vc : Value} (hp : R p [va, vb, vc]) (h : Reps R 3 ps cs) : Reps R 3 (p :: ps) (va :: vb :: vc :: cs) := Reps.front hp rfl h rfl
theorem Reps.c4 {α : Type} {R : α → List Value → Prop} {ps : List α} {cs : List Value} {p : α} {va vb vc vd : Value} (hp : R p [va, vb, vc, vd]) (h : Reps R 4 ps cs) : Reps R 4 (p :: ps) (va :: vb :: vc :: vd :: cs) := Reps.front hp rfl h rfl
theorem Reps.c5 {α : Type} {R : α → List Value → Prop} {ps : List α} {cs : List Value} {p : α} {va vb vc vd ve : Value} (hp : R p [va, vb, vc, vd, ve]) (h : Reps R 5 ps cs) : Reps R 5 (p :: ps) (va :: vb :: vc :: vd :: ve :: cs) := Reps.front hp rfl h rfl
theorem Reps.c6 {α : Type} {R : α → List Value → Prop} {ps : List α} {cs : List Value} {p : α} {va vb vc vd ve vf : Value} (hp : R p [va, vb, vc, vd, ve, vf]) (h : Reps R 6 ps cs) : Reps R 6 (p :: ps) (va :: vb :: vc :: vd :: ve :: vf :: cs) := Reps.front hp rfl h rfl
theorem Reps.c7 {α : Type} {R : α → List Value → Prop} {ps : List α} {cs : List Value} {p : α} {va vb vc vd ve vf vg : Value} (hp : R p [va, vb, vc, vd, ve, vf, vg]) (h : Reps R 7 ps cs) : Reps R 7 (p :: ps) (va :: vb :: vc :: vd :: ve :: vf :: vg :: cs) := Reps.front hp rfl h rfl
theorem Reps.c8 {α : Type} {R : α → List Value → Prop} {ps : List α} {cs : List Value} {p : α} {va vb vc vd ve vf vg vh : Value} (hp : R p [va, vb, vc, vd, ve, vf, vg, vh]) (h : Reps R 8 ps cs) : Reps R 8 (p :: ps) (va :: vb :: vc :: vd :: ve :: vf :: vg :: vh :: cs) := Reps.front hp rfl h rfl
theorem Reps.c9 {α : Type} {R : α → List Value → Prop} {ps : List α} {cs : List Value} {p : α} {va vb vc vd ve vf vg vh vi : Value} (hp : R p [va, vb, vc, vd, ve, vf, vg, vh, vi]) (h : Reps R 9 ps cs) : Reps R 9 (p :: ps) (va :: vb :: vc :: vd :: ve :: vf :: vg :: vh :: vi :: cs) := Reps.front hp rfl h rfl
theorem Reps.c10 {α : Type} {R : α → List Value → Prop} {ps : List α} {cs : List Value} {p : α} {va vb vc vd ve vf vg vh vi vj : Value} (hp : R p [va, vb, vc, vd, ve, vf, vg, vh, vi, vj]) (h : Reps R 10 ps cs) : Reps R 10 (p :: ps) (va :: vb :: vc :: vd :: ve :: vf :: vg :: vh :: vi :: vj :: cs) := Reps.front hp rfl h rfl
end Go.Proofs.YtillhaipemengaaGreatDoorW.PrintWords
end

section
namespace Go.Proofs.YtillhaipemengaaGreatDoorW.PrintWords
open Go.RowKit
section
variable {P : Program} {d : Nat} {xs ys : Array Value} {f : Field} {fs : List Field} {a b : Value} {r s : Bool} {w : World}
theorem eqf_last (hn : (f.name == "_") = false) (ha : (part f.type xs f.offset).run P w = .ok a w) (hb : (part f.type ys f.offset).run P w = .ok b w) (he : (Op.equalIn d f.type a b).run P w = .ok r w) : (Op.eqFields d xs ys [f]).run P w = .ok r w := by
  have hn' : f.name ≠ "_" := by simpa using hn
  simp only [Op.eqFields, if_pos hn', Sem.run_bind, ha, hb, he, Result.andThen_ok]
  cases r <;> simp
theorem eqf_cons (hn : (f.name == "_") = false) (ha : (part f.type xs f.offset).run P w = .ok a w) (hb : (part f.type ys f.offset).run P w = .ok b w) (he : (Op.equalIn d f.type a b).run P w = .ok r w) (hr : (Op.eqFields d xs ys fs).run P w = .ok s w) : (Op.eqFields d xs ys (f :: fs)).run P w = .ok (r && s) w := by
  have hn' : f.name ≠ "_" := by simpa using hn
  rw [Op.eqFields]
  simp only [if_pos hn', Sem.run_bind, ha, hb, he, Result.andThen_ok]
  cases r
  · simp
  · simpa using hr
theorem eqA_of {t : TypeId} {fs : Array Field} (hu : P.underlying t = some (.struct fs)) (hp : P.stoodInHeld t = false) (h : (Op.eqFields d xs ys fs.toList).run P w = .ok r w) : (Op.equalIn (d + 1) t (.agg xs) (.agg ys)).run P w = .ok r w := by
  have hf : P.fieldsOf t = fs := by simp [Program.fieldsOf, hu]
  rw [run_equalIn_struct (P := P) w d t xs ys (by rw [hf]; exact hu) hp, hf]
  exact h
end
end Go.Proofs.YtillhaipemengaaGreatDoorW.PrintWords
end
