/- The texts Range, WRepsOne, B64, WEqStruct in one file, without what these claims do not use (put together by prune2.py). -/
import Derived.RangeFuncNested
import Derived.RangeFuncBound
import Derived.RangeFuncCalls
import Derived.RangeFuncLeaves
import Derived.Below
import Derived.Deep.Draws
import Derived.Test.YtjdhdjmdmnedfaaGreatDoorZP0
import Derived.Lib.Bytealg
import Derived.Lib.SlTrimSet
import Derived.Laws.StructEq
section
namespace Go.Proofs.YtjdhdjmdmnedfaaGreatDoor
open Go Go.RowKit
/-- From A to B: no block is gone, and of A's blocks only those that 'may' have turned. -/
structure Moves (may : Nat → Prop) (A B : World) : Prop where
  size : A.heap.size ≤ B.heap.size
  block : ∀ k, k < A.heap.size → ¬ may k → B.heap[k]? = A.heap[k]?
  os : B.os = A.os
  tape : B.tape = A.tape
  output : B.output = A.output
theorem Moves.refl (may : Nat → Prop) (A : World) : Moves may A A := ⟨Nat.le_refl _, fun _ _ _ => rfl, rfl, rfl, rfl⟩
theorem Moves.trans {may : Nat → Prop} {A B C : World} (h : Moves may A B) (k : Moves may B C) : Moves may A C :=
  ⟨Nat.le_trans h.size k.size, fun i hi hm => (k.block i (Nat.lt_of_lt_of_le hi h.size) hm).trans (h.block i hi hm), k.os.trans h.os, k.tape.trans h.tape, k.output.trans h.output⟩
theorem Moves.mono {may may' : Nat → Prop} {A B : World} (h : Moves may A B) (hm : ∀ k, may k → may' k) : Moves may' A B :=
  ⟨h.size, fun k hk hn => h.block k hk (fun e => hn (hm k e)), h.os, h.tape, h.output⟩
theorem Moves.of_below {may : Nat → Prop} {A B : World} (h : Below A.heap.size A B) : Moves may A B := ⟨h.size, fun k hk _ => h.block k hk, h.os, h.tape, h.output⟩
theorem Moves.drewN (may : Nat → Prop) (A : World) (n : Nat) : Moves may A (A.drewN n) := ⟨Nat.le_refl _, fun _ _ _ => rfl, rfl, rfl, rfl⟩
theorem Moves.setCell {may : Nat → Prop} {A : World} {p : Addr} (hp : may p.block) (v : Value) : Moves may A (A.setCell p v) :=
  ⟨by simp [World.setCell], fun k _ hm => Below.heap_setCell A p v k (fun e => hm (e ▸ hp)), rfl, rfl, rfl⟩
theorem Moves.alloc (may : Nat → Prop) (A : World) (o : Obj) : Moves may A (A.alloc o) :=
  ⟨by simp, fun k hk _ => Below.heap_alloc A o k hk, rfl, rfl, rfl⟩
theorem Moves.putObj {may : Nat → Prop} {A : World} {l : Nat} (hl : may l) (o : Obj) : Moves may A (A.putObj l o) :=
  ⟨by simp, fun k _ hm => World.putObj_heap_other (fun e => hm (e ▸ hl)), rfl, rfl, rfl⟩
theorem below_moves {n : Nat} {p : Nat → Prop} {w A B : World} (h : Below n w A) (hn : n ≤ w.heap.size) (hm : Moves p A B) (hp : ∀ k, p k → n ≤ k) : Below n w B :=
  ⟨hm.os.trans h.os, hm.tape.trans h.tape, hm.output.trans h.output, Nat.le_trans h.size hm.size, fun k hk => (hm.block k (by have := h.size; omega) (fun e => by have := hp k e; omega)).trans (h.block k hk)⟩
/-- What an iterator promises: xs, one by one, or as many as the loop takes; it leans on the blocks 'keep', and turns of the elder ones 'may' alone. -/
def SeqHas {α : Type} (P : Program) (gf : Nat) (lb : Array Value) (encs : α → Array Value) (xs : List α) (keep may : Nat → Prop) (w : World) : Prop :=
  ∀ (l : Nat) (J Jx : List α → World → Prop) (W : World), w.heap.size ≤ W.heap.size → (∀ k, keep k → W.heap[k]? = w.heap[k]?) →
    (∀ s A B, J s A → Moves may A B → J s B) → (∀ s A B, Jx s A → Moves may A B → Jx s B) →
    (∀ pre x W1, J pre W1 → (pre ++ [x]) <+: xs → YieldAt Fence.wide 0 P l (encs x) W1 fun e W' =>
      (e = .returned (.bool true) ∧ J (pre ++ [x]) W' ∧ W1.heap.size ≤ W'.heap.size ∧ ∀ k, keep k → W'.heap[k]? = W1.heap[k]?) ∨ (e = .returned (.bool false) ∧ Jx (pre ++ [x]) W')) →
    J [] W →
    CallsIn Fence.wide 0 P gf (#[.func (.yield l) #[] #[]] ++ lb) W fun e W' => (∃ v, e = .returned v) ∧ (J xs W' ∨ ∃ pre, pre <+: xs ∧ Jx pre W')
/-- How a round's body is left. -/
def BodyPost {α : Type} (mine : Nat → Prop) (I : List α → World → Prop) (Ix : Code → List α → World → Prop) (xs : List α) (W : World) : Exit → Act → World → Prop
  | .normal, _, W' => Moves mine W W' ∧ I xs W'
  | .ret, _, W' => Moves mine W W' ∧ Ix .ret xs W'
  | .exit id, _, W' => Moves mine W W' ∧ Ix (.exit id) xs W'
  | .goto t, _, W' => Moves mine W W' ∧ Ix (.goto t) xs W'
  | .panic _, _, _ => False
  | .outgrown, _, _ => False
/-- 'for .. := range g { .. }' outside of any other such loop. The body may turn all but what the iterator leans on and the loop's own two blocks. The assignment's world may move ('A' says what it leaves). -/
theorem range_law2 {α : Type} {P : Program} {g : Operand} {ps : Array Tmp} {assign body : Code} {Q : Exit → Act → World → Prop} {a : Act} {w : World}
    {gf : Nat} {lb : Array Value} (hg : a.eval g = .func (.func gf) #[] lb) (eg : ∀ args w, (callFunc gf args).run P w = .ok (.enter gf args) w)
    {encs : α → Array Value} {xs : List α} {keep may : Nat → Prop} (hseq : SeqHas P gf lb encs xs keep may w)
    (hkeep : ∀ k, keep k → k < w.heap.size) (hmay : ∀ k, may k → k < w.heap.size) (hps : ∀ x, (encs x).size = ps.size)
    (mine : Nat → Prop) (hmine : ∀ k, mine k → ¬ keep k ∧ k ≠ w.heap.size ∧ k ≠ w.heap.size + 1)
    (I : List α → World → Prop) (Ix : Code → List α → World → Prop)
    (hI : ∀ s A B, I s A → w.heap.size ≤ A.heap.size → Moves (fun k => may k ∨ k = w.heap.size ∨ k = w.heap.size + 1) A B → I s B)
    (hIx : ∀ c s A B, Ix c s A → w.heap.size ≤ A.heap.size → Moves (fun k => may k ∨ k = w.heap.size ∨ k = w.heap.size + 1) A B → Ix c s B)
    (h0 : I [] w) (A : Nat → α → World → Act → World → Prop)
    (hassign : ∀ (l : Nat) (x : α) (W : World) (K : Act → World → Prop), w.heap.size ≤ W.heap.size → (∀ a' W', A l x W a' W' → K a' W') →
      assign.wpIn (Fence.wide.inRound l) 0 P (Exit.then K (fun _ _ _ => False)) { tmps := (ps.zip (encs x)).foldl (fun t (p, v) => t.setIfInBounds p v) a.tmps, defers := [] } W)
    (hA : ∀ l x W a' W', A l x W a' W' → Moves mine W W')
    (hbody : ∀ (l : Nat) (pre : List α) (x : α) (W W1 W2 : World) (a' : Act), w.heap.size ≤ W.heap.size → I pre W → (pre ++ [x]) <+: xs → A l x W a' W1 → Moves (fun k => k = l) W1 W2 → l = w.heap.size + 1 → l < W.heap.size →
      body.wpIn (Fence.wide.inRound l) 0 P (BodyPost mine I Ix (pre ++ [x]) W2) a' W2)
    (hdone : ∀ (D : Nat) (W : World), I xs W → W.heap[D]? = some (.deferred (some [])) → D = w.heap.size → Q .normal { a with defers := { target := .collected D, args := #[] } :: a.defers } W)
    (hstop : ∀ (D : Nat) (c : Code) (pre : List α) (W : World), pre <+: xs → Ix c pre W → W.heap[D]? = some (.deferred (some [])) → D = w.heap.size →
      c.wpIn Fence.wide 0 P Q { a with defers := { target := .collected D, args := #[] } :: a.defers } W) :
    (Code.rangeFunc g ps assign body).wpIn Fence.wide 0 P Q a w := by
  refine wpIn_rangeFunc ?_
  intro fn _
  obtain ⟨rec, hrec⟩ : ∃ rec : LoopState → Option Code → Loop, rec = fun st pe => { state := st, pending := pe, fn, tmps := a.tmps, params := ps, assign, body, defers := w.heap.size } := ⟨_, rfl⟩
  obtain ⟨W0, hW0⟩ : ∃ W0, (w.alloc (.deferred (some []))).alloc (.loop (rec .ready none)) = W0 := ⟨_, rfl⟩
  have hsz : W0.heap.size = w.heap.size + 2 := by rw [← hW0]; simp
  have hM0 : ∀ p : Nat → Prop, Moves p w W0 := fun p => by rw [← hW0]; exact (Moves.alloc _ _ _).trans (Moves.alloc _ _ _)
  have hL0 : W0.heap[w.heap.size + 1]? = some (.loop (rec .ready none)) := by
    rw [← hW0]; have := World.alloc_heap_new (w.alloc (.deferred (some []))) (.loop (rec .ready none)); rwa [World.size_alloc] at this
  have hD0 : W0.heap[w.heap.size]? = some (.deferred (some [])) := by
    rw [← hW0]; exact (Below.heap_alloc _ _ _ (by simp)).trans (World.alloc_heap_new w _)
  have hnm : ∀ j, ¬ may (w.heap.size + j) := fun j h => by have := hmay _ h; omega
  have hnk : ∀ j, ¬ keep (w.heap.size + j) := fun j h => by have := hkeep _ h; omega
  have hni : ∀ j, j < 2 → ¬ mine (w.heap.size + j) := fun j hj h => by
    obtain ⟨_, h1, h2⟩ := hmine _ h
    omega
  have hstay : ∀ {p : Nat → Prop} {A B : World} {k : Nat} {o : Obj}, Moves p A B → ¬ p k → A.heap[k]? = some o → B.heap[k]? = some o :=
    fun hm hp ho => (hm.block _ (Array.getElem?_eq_some_iff.1 ho).1 hp).trans ho
  have hlt : ∀ {A : World} {k : Nat} {o : Obj}, A.heap[k]? = some o → k < A.heap.size := fun ho => (Array.getElem?_eq_some_iff.1 ho).1
  have hput : ∀ (W : World) (o : Obj), Moves (fun k => may k ∨ k = w.heap.size ∨ k = w.heap.size + 1) W (W.putObj (w.heap.size + 1) o) := fun W o => Moves.putObj (.inr (.inr rfl)) o
  refine ⟨w.heap.size + 1, [{ target := .collected w.heap.size, args := #[] }], W0, { target := .fn (.func gf) lb, args := #[.func (.yield (w.heap.size + 1)) #[] #[]] }, W0, gf,
    #[.func (.yield (w.heap.size + 1)) #[] #[]] ++ lb, W0, ?_, ?_, fun f' hf' => trivial, ?_, fun h => by simp [Fence.wide] at h, ?_⟩
  · rw [← hW0, hrec]; exact run_enterLoop_outer _ _ _ _ _
  · simp only [resolve, hg]
    simp [go_sem]
  · simp [invoke, go_sem, eg]
  · refine (hseq (w.heap.size + 1)
      (fun pre W => I pre W ∧ W.heap[w.heap.size + 1]? = some (.loop (rec .ready none)) ∧ W.heap[w.heap.size]? = some (.deferred (some [])))
      (fun pre W => ∃ c, Ix c pre W ∧ W.heap[w.heap.size + 1]? = some (.loop (rec .done (some c))) ∧ W.heap[w.heap.size]? = some (.deferred (some [])))
      W0 (by omega) (fun k hk => (hM0 fun _ => False).block k (hkeep k hk) (fun h => h)) ?_ ?_ ?_ ?_).mono ?_
    · rintro s A B ⟨h1, h2, h3⟩ hm
      exact ⟨hI s A B h1 (by have := hlt h2; omega) (hm.mono fun k hk => .inl hk), hstay hm (hnm 1) h2, hstay hm (hnm 0) h3⟩
    · rintro s A B ⟨c, h1, h2, h3⟩ hm
      exact ⟨c, hIx c s A B h1 (by have := hlt h2; omega) (hm.mono fun k hk => .inl hk), hstay hm (hnm 1) h2, hstay hm (hnm 0) h3⟩
    · rintro pre x W ⟨hi, hl, hd⟩ hpre
      have hwl := hlt hl
      have hy := run_yield (P := P) (args := encs x) hl (by rw [hrec]; exact hps x)
      rw [hrec] at hy
      refine ⟨fn, _, assign, body, hy, roundIn_of_wpIn trivial (hassign _ x W _ (by omega) fun a' W1 ha => ?_)⟩
      have hm1 := hA _ _ _ _ _ ha
      have hl1 := hstay hm1 (hni 1 (by decide)) hl
      have hd1 := hstay hm1 (hni 0 (by decide)) hd
      refine ⟨_, run_beginRound hl1 (by rw [hrec]), ?_⟩
      obtain ⟨W2, hW2⟩ : ∃ W2, W1.putObj (w.heap.size + 1) (.loop { rec .ready none with state := .busy }) = W2 := ⟨_, rfl⟩
      have hl2 : W2.heap[w.heap.size + 1]? = some (.loop { rec .ready none with state := .busy }) := by rw [← hW2]; exact World.putObj_heap_same (hlt hl1)
      have hd2 : W2.heap[w.heap.size]? = some (.deferred (some [])) := by rw [← hW2]; exact (World.putObj_heap_other (by omega)).trans hd1
      have hm2 : Moves (fun k => k = w.heap.size + 1) W1 W2 := by rw [← hW2]; exact Moves.putObj (may := fun k => k = w.heap.size + 1) rfl _
      rw [hW2]
      have fin : ∀ (jump : Option Code) (W3 : World), Moves mine W2 W3 →
          (Instr.endRound (w.heap.size + 1) jump).run P W3 = .ok (.bool jump.isNone) (W3.putObj (w.heap.size + 1) (.loop (rec (if jump.isNone then .ready else .done) jump))) ∧
          (W3.putObj (w.heap.size + 1) (.loop (rec (if jump.isNone then .ready else .done) jump))).heap[w.heap.size + 1]? = some (.loop (rec (if jump.isNone then .ready else .done) jump)) ∧
          (W3.putObj (w.heap.size + 1) (.loop (rec (if jump.isNone then .ready else .done) jump))).heap[w.heap.size]? = some (.deferred (some [])) ∧ w.heap.size + 1 < W3.heap.size := fun jump W3 hm3 => by
        have hl3 := hstay hm3 (hni 1 (by decide)) hl2
        have hd3 := hstay hm3 (hni 0 (by decide)) hd2
        have he := run_endRound (P := P) jump hl3
        rw [hrec] at he ⊢
        exact ⟨he, World.putObj_heap_same (hlt hl3), (World.putObj_heap_other (by omega)).trans hd3, hlt hl3⟩
      refine wpIn_mono (hbody _ pre x W W1 W2 a' (by omega) hi hpre ha hm2 rfl hwl) ?_
      rintro e a3 W3 hp
      cases e with
      | normal =>
        obtain ⟨hm3, hi3⟩ := hp
        obtain ⟨he, hl4, hd4, hs3⟩ := fin none W3 hm3
        refine ⟨_, _, he, .inl ⟨rfl, ⟨hI _ _ _ hi3 (by omega) (hput _ _), hl4, hd4⟩, ?_, fun k hk => ?_⟩⟩
        · have := hm1.size; have := hm2.size; have := hm3.size; simp; omega
        · have hkw := hkeep k hk
          have hkm : ¬ mine k := fun h => (hmine k h).1 hk
          have s1 := hm1.size; have s2 := hm2.size
          exact (World.putObj_heap_other (by omega)).trans ((hm3.block k (by omega) hkm).trans ((hm2.block k (by omega) (by omega)).trans (hm1.block k (by omega) hkm)))
      | ret =>
        obtain ⟨hm3, hi3⟩ := hp
        obtain ⟨he, hl4, hd4, hs3⟩ := fin (some .ret) W3 hm3
        exact ⟨_, _, he, .inr ⟨rfl, .ret, hIx _ _ _ _ hi3 (by omega) (hput _ _), hl4, hd4⟩⟩
      | exit id =>
        obtain ⟨hm3, hi3⟩ := hp
        obtain ⟨he, hl4, hd4, hs3⟩ := fin (some (.exit id)) W3 hm3
        exact ⟨_, _, he, .inr ⟨rfl, .exit id, hIx _ _ _ _ hi3 (by omega) (hput _ _), hl4, hd4⟩⟩
      | goto t =>
        obtain ⟨hm3, hi3⟩ := hp
        obtain ⟨he, hl4, hd4, hs3⟩ := fin (some (.goto t)) W3 hm3
        exact ⟨_, _, he, .inr ⟨rfl, .goto t, hIx _ _ _ _ hi3 (by omega) (hput _ _), hl4, hd4⟩⟩
      | panic ch => exact hp.elim
      | outgrown => exact hp.elim
    · exact ⟨hI _ _ _ h0 (Nat.le_refl _) (hM0 _), hL0, hD0⟩
    · rintro e W2 ⟨⟨v, rfl⟩, (⟨hi, hl, hd⟩ | ⟨pre, hpre, c, hi, hl, hd⟩)⟩
      · refine ⟨none, _, by have := run_endLoop (P := P) hl (by rw [hrec]; simp); rw [hrec] at this; exact this, hdone _ _ (hI _ _ _ hi (by have := hlt hl; omega) (hput _ _)) ((World.putObj_heap_other (by omega)).trans hd) rfl⟩
      · exact ⟨some c, _, by have := run_endLoop (P := P) hl (by rw [hrec]; simp); rw [hrec] at this; exact this, hstop _ c pre _ hpre (hIx _ _ _ _ hi (by have := hlt hl; omega) (hput _ _)) ((World.putObj_heap_other (by omega)).trans hd) rfl⟩
/-- 'for .. := range g { .. }' outside of any other such loop. The assignment's world may move ('A' says what it leaves). -/
theorem range_law {α : Type} {P : Program} {g : Operand} {ps : Array Tmp} {assign body : Code} {Q : Exit → Act → World → Prop} {a : Act} {w : World}
    {gf : Nat} {lb : Array Value} (hg : a.eval g = .func (.func gf) #[] lb) (eg : ∀ args w, (callFunc gf args).run P w = .ok (.enter gf args) w)
    {encs : α → Array Value} {xs : List α} {keep may : Nat → Prop} (hseq : SeqHas P gf lb encs xs keep may w)
    (hkeep : ∀ k, keep k → k < w.heap.size) (hmay : ∀ k, may k → k < w.heap.size) (hps : ∀ x, (encs x).size = ps.size)
    (mine : Nat → Prop) (hmine : ∀ k, mine k → k < w.heap.size ∧ ¬ keep k)
    (I : List α → World → Prop) (Ix : Code → List α → World → Prop)
    (hI : ∀ s A B, I s A → w.heap.size ≤ A.heap.size → Moves (fun k => may k ∨ w.heap.size ≤ k) A B → I s B)
    (hIx : ∀ c s A B, Ix c s A → w.heap.size ≤ A.heap.size → Moves (fun k => may k ∨ w.heap.size ≤ k) A B → Ix c s B)
    (h0 : I [] w) (A : Nat → α → World → Act → World → Prop)
    (hassign : ∀ (l : Nat) (x : α) (W : World) (K : Act → World → Prop), w.heap.size ≤ W.heap.size → (∀ a' W', A l x W a' W' → K a' W') →
      assign.wpIn (Fence.wide.inRound l) 0 P (Exit.then K (fun _ _ _ => False)) { tmps := (ps.zip (encs x)).foldl (fun t (p, v) => t.setIfInBounds p v) a.tmps, defers := [] } W)
    (hA : ∀ l x W a' W', A l x W a' W' → Moves mine W W')
    (hbody : ∀ (l : Nat) (pre : List α) (x : α) (W W1 W2 : World) (a' : Act), w.heap.size ≤ W.heap.size → I pre W → (pre ++ [x]) <+: xs → A l x W a' W1 → Moves (fun k => k = l) W1 W2 → w.heap.size ≤ l → l < W.heap.size →
      body.wpIn (Fence.wide.inRound l) 0 P (BodyPost mine I Ix (pre ++ [x]) W2) a' W2)
    (hdone : ∀ (D : Nat) (W : World), I xs W → W.heap[D]? = some (.deferred (some [])) → w.heap.size ≤ D → Q .normal { a with defers := { target := .collected D, args := #[] } :: a.defers } W)
    (hstop : ∀ (D : Nat) (c : Code) (pre : List α) (W : World), pre <+: xs → Ix c pre W → W.heap[D]? = some (.deferred (some [])) → w.heap.size ≤ D →
      c.wpIn Fence.wide 0 P Q { a with defers := { target := .collected D, args := #[] } :: a.defers } W) :
    (Code.rangeFunc g ps assign body).wpIn Fence.wide 0 P Q a w := by
  refine range_law2 hg eg hseq hkeep hmay hps mine (fun k hk => ?_) I Ix (fun s A B h hs hm => hI s A B h hs (hm.mono fun k hk => ?_)) (fun c s A B h hs hm => hIx c s A B h hs (hm.mono fun k hk => ?_)) h0 A hassign hA (fun l pre x W W1 W2 a' h1 h2 h3 h4 h5 h6 h7 => hbody l pre x W W1 W2 a' h1 h2 h3 h4 h5 (by omega) h7) (fun D W h1 h2 h3 => hdone D W h1 h2 (by omega)) (fun D c pre W h1 h2 h3 h4 => hstop D c pre W h1 h2 h3 (by omega))
  · have := hmine k hk
    exact ⟨this.2, by omega, by omega⟩
  · rcases hk with hk | hk | hk
    · exact .inl hk
    · exact .inr (by omega)
    · exact .inr (by omega)
  · rcases hk with hk | hk | hk
    · exact .inl hk
    · exact .inr (by omega)
    · exact .inr (by omega)
section
variable {P : Program} {fn : Func} {tmps : Array Value} {R : Ending → World → Prop} {w : World} {v : Value}
theorem leave_plain (hr : (results fn tmps).run P w = .ok v w) (hR : R (.returned v) w) : bodyPostM Fence.wide 0 P fn R .ret { tmps := tmps, defers := [] } w := ⟨v, hr, hR⟩
theorem leave_marked {D : Nat} (hd : w.heap[D]? = some (.deferred (some []))) (hr : (results fn tmps).run P (w.putObj D (.deferred none)) = .ok v (w.putObj D (.deferred none))) (hR : R (.returned v) (w.putObj D (.deferred none))) :
    bodyPostM Fence.wide 0 P fn R .ret { tmps := tmps, defers := [{ target := .collected D, args := #[] }] } w :=
  ⟨by simp, .inl ⟨_, _, rfl, run_takeDeferred hd, v, hr, hR⟩⟩
/-- One result that is a variable of one cell. -/
theorem results_cell1 {p : Tmp} {ty : TypeId} {a : Addr} (h : fn.results = #[.cell p ty]) (hp : tmps.getD p undef = .pointer (some a)) (ha : ∀ w, (isAgg ty).run P w = .ok false w) (hc : w.cell? a = some v) :
    (results fn tmps).run P w = .ok v w := by
  have hp' : tmps[p]?.getD undef = .pointer (some a) := by simpa using hp
  have hl : (loadVar ty a).run P w = .ok v w := by simp [loadVar, go_sem, ha, hc, Result.andThen]
  simp [results, h, hp', asAddr, hl]
end
end Go.Proofs.YtjdhdjmdmnedfaaGreatDoor
end

section
namespace Go.Proofs.YtjdhdjmdmnedfaaGreatDoorW.PrintWords
theorem Reps.one {α : Type} {R : α → List Value → Prop} {ps : List α} {cs : List Value} {p : α} {v : Value} (hp : R p [v]) (h : Reps R 1 ps cs) : Reps R 1 (p :: ps) (v :: cs) := by
  refine ⟨by simp [h.1], fun j q hq => ?_⟩
  cases j with
  | zero =>
    simp only [List.getElem?_cons_zero, Option.some.injEq] at hq
    subst hq
    simpa using hp
  | succ j =>
    simp only [List.getElem?_cons_succ] at hq
    have h1 := h.2 j q hq
    simpa [Nat.mul_one] using h1
theorem Reps.front {α : Type} {R : α → List Value → Prop} {size : Nat} {ps : List α} {cs c all : List Value} {p : α} (hp : R p c) (hc : c.length = size) (h : Reps R size ps cs) (ha : c ++ cs = all) : Reps R size (p :: ps) all := by
  subst ha
  refine ⟨by rw [List.length_append, hc, h.1, List.length_cons, Nat.succ_mul, Nat.add_comm], fun j q hq => ?_⟩
  cases j with
  | zero =>
    simp only [List.getElem?_cons_zero, Option.some.injEq] at hq
    subst hq
    rw [Nat.zero_mul, List.drop_zero, List.take_append_of_le_length (by omega), List.take_of_length_le (by omega)]
    exact hp
  | succ j =>
    simp only [List.getElem?_cons_succ] at hq
    have h1 := h.2 j q hq
    rw [Nat.succ_mul, List.drop_append, List.drop_of_length_le (by rw [hc]; exact Nat.le_add_left _ _), List.nil_append, hc, Nat.add_sub_cancel]
    exact h1
theorem Reps.c2 {α : Type} {R : α → List Value → Prop} {ps : List α} {cs : List Value} {p : α} {va vb : Value} (hp : R p [va, vb]) (h : Reps R 2 ps cs) : Reps R 2 (p :: ps) (va :: vb :: cs) := Reps.front hp rfl h rfl
theorem Reps.c3 {α : Type} {R : α → List Value → Prop} {ps : List α} {cs : List Value} {p : α} {va vb vc : Value} (hp : R p [va, vb, vc]) (h : Reps R 3 ps cs) : Reps R 3 (p :: ps) (va :: vb :: vc :: cs) := Reps.front hp rfl h rfl
theorem Reps.c4 {α : Type} {R : α → List Value → Prop} {ps : List α} {cs : List Value} {p : α} {va vb vc vd : Value} (hp : R p [va, vb, vc, vd]) (h : Reps R 4 ps cs) : Reps R 4 (p :: ps) (va :: vb :: vc :: vd :: cs) := Reps.front hp rfl h rfl
theorem Reps.c5 {α : Type} {R : α → List Value → Prop} {ps : List α} {cs : List Value} {p : α} {va vb vc vd ve : Value} (hp : R p [va, vb, vc, vd, ve]) (h : Reps R 5 ps cs) : Reps R 5 (p :: ps) (va :: vb :: vc :: vd :: ve :: cs) := Reps.front hp rfl h rfl
theorem Reps.c6 {α : Type} {R : α → List Value → Prop} {ps : List α} {cs : List Value} {p : α} {va vb vc vd ve vf : Value} (hp : R p [va, vb, vc, vd, ve, vf]) (h : Reps R 6 ps cs) : Reps R 6 (p :: ps) (va :: vb :: vc :: vd :: ve :: vf :: cs) := Reps.front hp rfl h rfl
theorem Reps.c7 {α : Type} {R : α → List Value → Prop} {ps : List α} {cs : List Value} {p : α} {va vb vc vd ve vf vg : Value} (hp : R p [va, vb, vc, vd, ve, vf, vg]) (h : Reps R 7 ps cs) : Reps R 7 (p :: ps) (va :: vb :: vc :: vd :: ve :: vf :: vg :: cs) := Reps.front hp rfl h rfl
theorem Reps.c8 {α : Type} {R : α → List Value → Prop} {ps : List α} {cs : List Value} {p : α} {va vb vc vd ve vf vg vh : Value} (hp : R p [va, vb, vc, vd, ve, vf, vg, vh]) (h : Reps R 8 ps cs) : Reps R 8 (p :: ps) (va :: vb :: vc :: vd :: ve :: vf :: vg :: vh :: cs) := Reps.front hp rfl h rfl
theorem Reps.c9 {α : Type} {R : α → List Value → Prop} {ps : List α} {cs : List Value} {p : α} {va vb vc vd ve vf vg vh vi : Value} (hp : R p [va, vb, vc, vd, ve, vf, vg, vh, vi]) (h : Reps R 9 ps cs) : Reps R 9 (p :: ps) (va :: vb :: vc :: vd :: ve :: vf :: vg :: vh :: vi :: cs) := Reps.front hp rfl h rfl
theorem Reps.c10 {α : Type} {R : α → List Value → Prop} {ps : List α} {cs : List Value} {p : α} {va vb vc vd ve vf vg vh vi vj : Value} (hp : R p [va, vb, vc, vd, ve, vf, vg, vh, vi, vj]) (h : Reps R 10 ps cs) : Reps R 10 (p :: ps) (va :: vb :: vc :: vd :: ve :: vf :: vg :: vh :: vi :: vj :: cs) := Reps.front hp rfl h rfl
end Go.Proofs.YtjdhdjmdmnedfaaGreatDoorW.PrintWords
end

section
namespace Go.Proofs.YtjdhdjmdmnedfaaGreatDoor
open Go Go.Lib
set_option linter.unusedVariables false
set_option linter.unusedSimpArgs false
/-- The signs of base 64, by their numbers. -/
def signsL : List UInt8 := [65, 66, 67, 68, 69, 70, 71, 72, 73, 74, 75, 76, 77, 78, 79, 80, 81, 82, 83, 84, 85, 86, 87, 88, 89, 90, 97, 98, 99, 100, 101, 102, 103, 104, 105, 106, 107, 108, 109, 110, 111, 112, 113, 114, 115, 116, 117, 118, 119, 120, 121, 122, 48, 49, 50, 51, 52, 53, 54, 55, 56, 57, 43, 47]
def sgn (n : Nat) : UInt8 := signsL.getD n 0
def numS (c : UInt8) : Int := indexByte signsL c
theorem numS_sgn : ∀ n : Nat, n < 64 → numS (sgn n) = (n : Int) := by decide +kernel
theorem sgn_ne_pad : ∀ n : Nat, n < 64 → sgn n ≠ 61 := by decide +kernel
theorem sgn_clean : ∀ n : Nat, n < 64 → sgn n ≠ 32 ∧ sgn n ≠ 10 := by decide +kernel
theorem numS_lt (c : UInt8) : numS c < 64 := by
  have : ∀ n : Nat, n < 256 → numS (UInt8.ofNat n) < 64 := by decide +kernel
  have h := this c.toNat c.toNat_lt
  rwa [UInt8.ofNat_toNat] at h
/-- Bytes as signs, without the padding. -/
def encB : List UInt8 → List UInt8
  | [] => []
  | [a] => [sgn (a.toNat / 4), sgn (a.toNat % 4 * 16)]
  | [a, b] => [sgn (a.toNat / 4), sgn (a.toNat % 4 * 16 + b.toNat / 16), sgn (b.toNat % 16 * 4)]
  | a :: b :: c :: t => sgn (a.toNat / 4) :: sgn (a.toNat % 4 * 16 + b.toNat / 16) :: sgn (b.toNat % 16 * 4 + c.toNat / 64) :: sgn (c.toNat % 64) :: encB t
/-- Bytes as signs. -/
def enc : List UInt8 → List UInt8
  | [] => []
  | [a] => [sgn (a.toNat / 4), sgn (a.toNat % 4 * 16), 61, 61]
  | [a, b] => [sgn (a.toNat / 4), sgn (a.toNat % 4 * 16 + b.toNat / 16), sgn (b.toNat % 16 * 4), 61]
  | a :: b :: c :: t => sgn (a.toNat / 4) :: sgn (a.toNat % 4 * 16 + b.toNat / 16) :: sgn (b.toNat % 16 * 4 + c.toNat / 64) :: sgn (c.toNat % 64) :: enc t
/-- Signs as bytes: n holds the last twelve bits, `bits` of them not given yet. -/
def dec : Nat → Nat → List UInt8 → Option (List UInt8)
  | _, _, [] => some []
  | n, bits, c :: t => if numS c < 0 then none else
    if 8 ≤ bits + 6 then (dec ((n * 64 + (numS c).toNat) % 4096) (bits - 2) t).map (UInt8.ofNat ((n * 64 + (numS c).toNat) % 4096 / 2 ^ (bits - 2)) :: ·) else dec ((n * 64 + (numS c).toNat) % 4096) (bits + 6) t
theorem enc_pad : ∀ d : List UInt8, ∃ k, enc d = encB d ++ List.replicate k 61
  | [] => ⟨0, rfl⟩
  | [a] => ⟨2, rfl⟩
  | [a, b] => ⟨1, rfl⟩
  | a :: b :: c :: t => by
    obtain ⟨k, h⟩ := enc_pad t
    exact ⟨k, by simp only [enc, encB, h, List.cons_append]⟩
theorem encB_mem : ∀ (d : List UInt8) (x : UInt8), x ∈ encB d → ∃ n, n < 64 ∧ x = sgn n
  | [], x, h => by simp [encB] at h
  | [a], x, h => by
    have ha := a.toNat_lt
    simp only [encB, List.mem_cons, List.not_mem_nil, or_false] at h
    rcases h with rfl | rfl
    · exact ⟨_, by omega, rfl⟩
    · exact ⟨_, by omega, rfl⟩
  | [a, b], x, h => by
    have ha := a.toNat_lt
    have hb := b.toNat_lt
    simp only [encB, List.mem_cons, List.not_mem_nil, or_false] at h
    rcases h with rfl | rfl | rfl
    · exact ⟨_, by omega, rfl⟩
    · exact ⟨_, by omega, rfl⟩
    · exact ⟨_, by omega, rfl⟩
  | a :: b :: c :: t, x, h => by
    have ha := a.toNat_lt
    have hb := b.toNat_lt
    have hc := c.toNat_lt
    simp only [encB, List.mem_cons] at h
    rcases h with rfl | rfl | rfl | rfl | h
    · exact ⟨_, by omega, rfl⟩
    · exact ⟨_, by omega, rfl⟩
    · exact ⟨_, by omega, rfl⟩
    · exact ⟨_, by omega, rfl⟩
    · exact encB_mem t x h
theorem encB_no_pad (d : List UInt8) : (61 : UInt8) ∉ encB d := fun h => by
  obtain ⟨n, hn, e⟩ := encB_mem d 61 h
  exact sgn_ne_pad n hn e.symm
theorem enc_clean (d : List UInt8) : (32 : UInt8) ∉ enc d ∧ (10 : UInt8) ∉ enc d := by
  obtain ⟨k, h⟩ := enc_pad d
  rw [h]
  constructor
  · intro hm
    rcases List.mem_append.1 hm with hm | hm
    · obtain ⟨n, hn, e⟩ := encB_mem d _ hm
      exact (sgn_clean n hn).1 e.symm
    · exact absurd (List.eq_of_mem_replicate hm) (by decide)
  · intro hm
    rcases List.mem_append.1 hm with hm | hm
    · obtain ⟨n, hn, e⟩ := encB_mem d _ hm
      exact (sgn_clean n hn).2 e.symm
    · exact absurd (List.eq_of_mem_replicate hm) (by decide)
theorem dec_short {n bits k : Nat} (t : List UInt8) (hk : k < 64) (hb : bits < 2) : dec n bits (sgn k :: t) = dec ((n * 64 + k) % 4096) (bits + 6) t := by
  show (if numS (sgn k) < 0 then none else _) = _
  rw [numS_sgn k hk, if_neg (by omega), if_neg (by omega)]
  rfl
theorem dec_long {n bits k : Nat} (t : List UInt8) (hk : k < 64) (hb : 2 ≤ bits) : dec n bits (sgn k :: t) = (dec ((n * 64 + k) % 4096) (bits - 2) t).map (UInt8.ofNat ((n * 64 + k) % 4096 / 2 ^ (bits - 2)) :: ·) := by
  show (if numS (sgn k) < 0 then none else _) = _
  rw [numS_sgn k hk, if_neg (by omega), if_pos (by omega)]
  rfl
theorem byte_is {a : UInt8} {n : Nat} (h : n % 256 = a.toNat) : UInt8.ofNat n = a := by
  apply UInt8.toNat_inj.1
  rw [UInt8.toNat_ofNat']
  exact h
theorem dec_encB : ∀ (d : List UInt8) (n : Nat), dec n 0 (encB d) = some d
  | [], n => rfl
  | [a], n => by
    have ha := a.toNat_lt
    rw [encB, dec_short _ (by omega) (by omega), dec_long _ (by omega) (by omega)]
    simp only [dec, Option.map_some]
    rw [byte_is (a := a) (by omega)]
  | [a, b], n => by
    have ha := a.toNat_lt
    have hb := b.toNat_lt
    rw [encB, dec_short _ (by omega) (by omega), dec_long _ (by omega) (by omega), dec_long _ (by omega) (by omega)]
    simp only [dec, Option.map_some]
    rw [byte_is (a := a) (by omega), byte_is (a := b) (by omega)]
  | a :: b :: c :: t, n => by
    have ha := a.toNat_lt
    have hb := b.toNat_lt
    have hc := c.toNat_lt
    rw [encB, dec_short _ (by omega) (by omega), dec_long _ (by omega) (by omega), dec_long _ (by omega) (by omega), dec_long _ (by omega) (by omega)]
    rw [show 0 + 6 - 2 - 2 - 2 = 0 from rfl, dec_encB t _]
    simp only [Option.map_some]
    rw [byte_is (a := a) (by omega), byte_is (a := b) (by omega), byte_is (a := c) (by omega)]
/-- What stands ahead of the padding, by two roads. -/
def trimEq (t : List UInt8) : List UInt8 := (t.reverse.dropWhile (· == 61)).reverse
theorem dropWhile_pad (k : Nat) : ∀ l : List UInt8, (List.replicate k (61 : UInt8) ++ l).dropWhile (· == 61) = l.dropWhile (· == 61) := by
  induction k with
  | zero => intro l; rfl
  | succ k ih => intro l; rw [List.replicate_succ, List.cons_append, List.dropWhile_cons_of_pos (by decide)]; exact ih l
theorem dropWhile_id : ∀ {l : List UInt8}, (61 : UInt8) ∉ l → l.dropWhile (· == 61) = l
  | [], _ => rfl
  | b :: t, h => by rw [List.dropWhile_cons_of_neg]; intro e; exact h (by rw [eq_of_beq e]; exact List.mem_cons_self)
theorem trimEq_enc (d : List UInt8) : trimEq (enc d) = encB d := by
  obtain ⟨k, h⟩ := enc_pad d
  unfold trimEq
  rw [h, List.reverse_append, List.reverse_replicate, dropWhile_pad, dropWhile_id (by rw [List.mem_reverse]; exact encB_no_pad d), List.reverse_reverse]
theorem takeWhile_enc (d : List UInt8) : (enc d).takeWhile (fun b => b != 61) = encB d := by
  obtain ⟨k, h⟩ := enc_pad d
  have h1 : ∀ x ∈ encB d, (x != 61) = true := fun x hx => by
    have h2 : x ≠ 61 := by rintro rfl; exact encB_no_pad d hx
    simpa using h2
  rw [h, List.takeWhile_append_of_pos h1]
  cases k with
  | zero => simp
  | succ k => rw [List.replicate_succ, List.takeWhile_cons_of_neg (by decide), List.append_nil]
/-- What signs tell, if they are told so. -/
def decOf (t : List UInt8) : Option (List UInt8) := match dec 0 0 (trimEq t) with
  | none => none
  | some d => if enc d = t then some d else none
theorem decOf_iff {t d : List UInt8} : decOf t = some d ↔ enc d = t := by
  constructor
  · intro h
    unfold decOf at h
    split at h
    · cases h
    · split at h
      · obtain rfl := Option.some.inj h
        assumption
      · cases h
  · rintro rfl
    unfold decOf
    rw [trimEq_enc, dec_encB]
    simp
/-- May a text be a hash? -/
def hashOk (l : List UInt8) : Bool := (l.take 3 == [104, 49, 58]) && (match decOf (l.drop 3) with | none => false | some d => d.length == 32)
theorem hashOk_clean {l : List UInt8} (h : hashOk l = true) : (32 : UInt8) ∉ l ∧ (10 : UInt8) ∉ l ∧ l ≠ [] := by
  unfold hashOk at h
  rw [Bool.and_eq_true] at h
  have h1 := eq_of_beq h.1
  have h2 := h.2
  split at h2
  · cases h2
  · rename_i d hd
    have he := decOf_iff.1 hd
    have hs : l = [104, 49, 58] ++ enc d := by rw [he, ← h1, List.take_append_drop]
    have hc := enc_clean d
    rw [hs]
    refine ⟨fun hm => ?_, fun hm => ?_, by simp⟩
    · rcases List.mem_append.1 hm with hm | hm
      · exact absurd hm (by decide)
      · exact hc.1 hm
    · rcases List.mem_append.1 hm with hm | hm
      · exact absurd hm (by decide)
      · exact hc.2 hm
end Go.Proofs.YtjdhdjmdmnedfaaGreatDoor
end

section
namespace Go.Proofs.YtjdhdjmdmnedfaaGreatDoorW.PrintWords
open Go.RowKit
section
variable {P : Program} {d : Nat} {xs ys : Array Value} {f : Field} {fs : List Field} {a b : Value} {r s : Bool} {w : World}
theorem eqf_last (hn : (f.name == "_") = false) (ha : (part f.type xs f.offset).run P w = .ok a w) (hb : (part f.type ys f.offset).run P w = .ok b w) (he : (Op.equalIn d f.type a b).run P w = .ok r w) : (Op.eqFields d xs ys [f]).run P w = .ok r w := by
  have hn' : f.name ≠ "_" := by simpa using hn
  simp only [Op.eqFields, if_pos hn', Sem.run_bind, ha, hb, he, Result.andThen_ok]
  cases r <;> simp
theorem eqf_cons (hn : (f.name == "_") = false) (ha : (part f.type xs f.offset).run P w = .ok a w) (hb : (part f.type ys f.offset).run P w = .ok b w) (he : (Op.equalIn d f.type a b).run P w = .ok r w) (hr : (Op.eqFields d xs ys fs).run P w = .ok s w) : (Op.eqFields d xs ys (f :: fs)).run P w = .ok (r && s) w := by
  have hn' : f.name ≠ "_" := by simpa using hn
  rw [Op.eqFields]
  simp only [if_pos hn', Sem.run_bind, ha, hb, he, Result.andThen_ok]
  cases r
  · simp
  · simpa using hr
theorem eqA_of {t : TypeId} {fs : Array Field} (hu : P.underlying t = some (.struct fs)) (hp : P.stoodInHeld t = false) (h : (Op.eqFields d xs ys fs.toList).run P w = .ok r w) : (Op.equalIn (d + 1) t (.agg xs) (.agg ys)).run P w = .ok r w := by
  have hf : P.fieldsOf t = fs := by simp [Program.fieldsOf, hu]
  rw [run_equalIn_struct (P := P) w d t xs ys (by rw [hf]; exact hu) hp, hf]
  exact h
end
end Go.Proofs.YtjdhdjmdmnedfaaGreatDoorW.PrintWords
end
