/- The texts WMore, Str, Range in one file, without what these claims do not use (put together by prune2.py). -/
import Derived.Test.YtmbpefnhkimplaaGreatDoorZE0
import Derived.Test.YtmbpefnhkimplaaGreatDoorZE1
import Derived.Test.YtmbpefnhkimplaaGreatDoorZE2
import Derived.Lib.SplitLaws
import Derived.Lib.CutLaws
import Derived.Lib.IndexBytes
import Derived.RangeFuncNested
import Derived.RangeFuncBound
import Derived.RangeFuncCalls
import Derived.RangeFuncLeaves
import Derived.Below
import Derived.Deep.Draws
section
namespace Go.Proofs.YtmbpefnhkimplaaGreatDoorW.PrintMore
open Go.RowKit Go.Proofs.YtmbpefnhkimplaaGreatDoorW.PrintWords
namespace Kd
open Go.Proofs.YtmbpefnhkimplaaGreatDoorW.PrintWords.Kd
end Kd
namespace Kd
open Go.Proofs.YtmbpefnhkimplaaGreatDoorW.PrintWords.Kd
section
variable {α : Type} {d : Kd α} {e base g N : Nat} {ok : Nat → Prop} {W w1 : World} {u v : Value} {xs : List α}
end
end Kd
theorem max2_int (k k' : IntKind) (x y : Int) : Builtin.max2 (.int k x) (.int k' y) = pure (.int k (if x < y then y else x)) := by simp only [Builtin.max2, gt_iff_lt]
theorem min2_int (k k' : IntKind) (x y : Int) : Builtin.min2 (.int k x) (.int k' y) = pure (.int k (if y < x then y else x)) := by simp only [Builtin.min2]
theorem max_two (ats : Array TypeId) (ty : TypeId) (a b : Value) : Builtin.max_ ats ty #[a, b] = (Builtin.max2 a b >>= fun s => pure s) := by simp only [Builtin.max_, List.foldlM_cons, List.foldlM_nil]
theorem min_two (ats : Array TypeId) (ty : TypeId) (a b : Value) : Builtin.min_ ats ty #[a, b] = (Builtin.min2 a b >>= fun s => pure s) := by simp only [Builtin.min_, List.foldlM_cons, List.foldlM_nil]
theorem max_three (ats : Array TypeId) (ty : TypeId) (a b c : Value) : Builtin.max_ ats ty #[a, b, c] = (Builtin.max2 a b >>= fun s => Builtin.max2 s c >>= fun s => pure s) := by simp only [Builtin.max_, List.foldlM_cons, List.foldlM_nil]
theorem min_three (ats : Array TypeId) (ty : TypeId) (a b c : Value) : Builtin.min_ ats ty #[a, b, c] = (Builtin.min2 a b >>= fun s => Builtin.min2 s c >>= fun s => pure s) := by simp only [Builtin.min_, List.foldlM_cons, List.foldlM_nil]
theorem max_four (ats : Array TypeId) (ty : TypeId) (a b c d : Value) : Builtin.max_ ats ty #[a, b, c, d] = (Builtin.max2 a b >>= fun s => Builtin.max2 s c >>= fun s => Builtin.max2 s d >>= fun s => pure s) := by simp only [Builtin.max_, List.foldlM_cons, List.foldlM_nil]
theorem min_four (ats : Array TypeId) (ty : TypeId) (a b c d : Value) : Builtin.min_ ats ty #[a, b, c, d] = (Builtin.min2 a b >>= fun s => Builtin.min2 s c >>= fun s => Builtin.min2 s d >>= fun s => pure s) := by simp only [Builtin.min_, List.foldlM_cons, List.foldlM_nil]
end Go.Proofs.YtmbpefnhkimplaaGreatDoorW.PrintMore
namespace Go.Proofs.YtmbpefnhkimplaaGreatDoorW.PrintWords
open Go.RowKit
section
variable {P : Program} {ops : Array Oper} {rest : List Oper} {o : Oper} {a : Act} {Q : Exit → Act → World → Prop} {W : World}
theorem gate_callee {f : FuncId} {as : Array Operand} {ts : Array TypeId} (_ho : o.op = .call { callee := .value (.func f), args := as, argTypes := ts }) (h : wpList P ops Q (o :: rest) a W) : wpList P ops Q (o :: rest) a W := h
theorem gate_builtin {b : Builtin} {xs : Array Operand} {ts : Array TypeId} (_ho : o.op = .call { callee := .builtin b, args := xs, argTypes := ts }) (h : wpList P ops Q (o :: rest) a W) : wpList P ops Q (o :: rest) a W := h
end
def mn (a b : Int) : Int := if b < a then b else a
namespace Kd
section
variable {α : Type} {d : Kd α} {e base : Nat} {ok : Nat → Prop} {W w1 : World} {v : Value} {xs : List α}
theorem R_grown2 (h : d.R e W base ok v xs) (hE : d.E = []) {row : Option Nat} (hg : W.grownBy w1 row) (hne : ∀ k, row = some k → some k ≠ v.ownBlock) : d.R e w1 base ok v xs :=
  R_mono (R_grown (R_tight hE h) hg (fun k hk e_ => hne k e_.symm hk)) (fun k hk => h.1 k hk.symm)
end
section
variable {α : Type} {d : Kd α} {e base g n cap : Nat} {ok oki okp : Nat → Prop} {W : World} {xs : List α} {i : Int} {c : List Value}
end
section
variable {α : Type} {d : Kd α} {e base b b' g N : Nat} {ok ok1 : Nat → Prop} {W W2 w1 : World} {u v : Value} {xs ys : List α} {S : Nat → Prop}
end
end Kd
end Go.Proofs.YtmbpefnhkimplaaGreatDoorW.PrintWords
namespace Go.Proofs.YtmbpefnhkimplaaGreatDoorW.PrintWords
open Go.RowKit
namespace Kd
def V {α : Type} (d : Kd α) (_e : Nat) (W : World) (_base : Nat) (ok : Nat → Prop) (v : Value) (xs : List α) : Prop := ∃ A c, v = .slice A xs.length c ∧ xs.length ≤ c ∧ F d W ok A xs.length xs
section
variable {α β : Type} {d : Kd α} {e base base' n m c g N' lo hi : Nat} {ok ok' S : Nat → Prop} {w W w1 : World} {A : Option Addr} {ad : Addr} {u v v1 : Value} {xs : List α}
theorem V_nil (d : Kd α) (e : Nat) (W : World) (base : Nat) (ok : Nat → Prop) : V d e W base ok (.slice none 0 0) [] := ⟨none, 0, rfl, Nat.le_refl _, F_nil d W ok⟩
end
end Kd
end Go.Proofs.YtmbpefnhkimplaaGreatDoorW.PrintWords
end

section
namespace Go.Proofs.YtmbpefnhkimplaaGreatDoor
open Go Go.Lib
/-- A list split at a byte: always one part at least. -/
def splitC (c : UInt8) : List UInt8 → List (List UInt8)
  | [] => [[]]
  | b :: t => if b = c then [] :: splitC c t else
    match splitC c t with
    | [] => [[b]]
    | p :: ps => (b :: p) :: ps
def ba (l : List UInt8) : ByteArray := ⟨l.toArray⟩
theorem ba_data (l : List UInt8) : (ba l).data.toList = l := rfl
theorem ba_size (l : List UInt8) : (ba l).size = l.length := by simp [ba, ByteArray.size]
theorem ba_of (s : ByteArray) : ba s.data.toList = s := rfl
theorem by_data {a b : ByteArray} (h : a.data.toList = b.data.toList) : a = b := by
  cases a; cases b; simp at h; subst h; rfl
/-- A text split at a byte. -/
def splitBy (c : UInt8) (s : ByteArray) : List ByteArray := (splitC c s.data.toList).map ba
theorem splitC_ne (c : UInt8) : ∀ l, splitC c l ≠ []
  | [] => by simp [splitC]
  | b :: t => by
    unfold splitC
    split
    · simp
    · split <;> simp
theorem splitC_other {c b : UInt8} (h : b ≠ c) (t : List UInt8) : ∃ p ps, splitC c t = p :: ps ∧ splitC c (b :: t) = (b :: p) :: ps := by
  cases e : splitC c t with
  | nil => exact absurd e (splitC_ne c t)
  | cons p ps => exact ⟨p, ps, rfl, by simp [splitC, h, e]⟩
theorem splitC_none {c : UInt8} : ∀ {l : List UInt8}, c ∉ l → splitC c l = [l]
  | [], _ => rfl
  | b :: t, h => by
    have h1 : b ≠ c := fun e => h (e ▸ List.mem_cons_self)
    have h2 : c ∉ t := fun e => h (List.mem_cons_of_mem _ e)
    simp [splitC, h1, splitC_none h2]
theorem splitC_at {c : UInt8} : ∀ {a : List UInt8} (t : List UInt8), c ∉ a → splitC c (a ++ c :: t) = a :: splitC c t
  | [], t, _ => by simp [splitC]
  | b :: a, t, h => by
    have h1 : b ≠ c := fun e => h (e ▸ List.mem_cons_self)
    have h2 : c ∉ a := fun e => h (List.mem_cons_of_mem _ e)
    simp [splitC, h1, splitC_at t h2]
theorem splitC_length (c : UInt8) : ∀ l : List UInt8, (splitC c l).length = l.count c + 1
  | [] => rfl
  | b :: t => by
    have ih := splitC_length c t
    by_cases h : b = c
    · subst h; simp [splitC, ih]
    · obtain ⟨p, ps, e, e2⟩ := splitC_other h t
      rw [e2]; rw [e] at ih
      simp at ih ⊢
      rw [List.count_cons, if_neg (by simpa using h)]; omega
/-- A part has none of the byte, and all parts lie in the list. -/
theorem splitC_parts {c : UInt8} : ∀ {l p : List UInt8}, p ∈ splitC c l → c ∉ p ∧ p.length ≤ l.length
  | [], p, h => by simp [splitC] at h; subst h; simp
  | b :: t, p, h => by
    by_cases hb : b = c
    · rw [splitC, if_pos hb] at h
      rcases List.mem_cons.1 h with rfl | h
      · simp
      · have := splitC_parts h; exact ⟨this.1, by simp; omega⟩
    · obtain ⟨q, qs, e, e2⟩ := splitC_other hb t
      rw [e2] at h
      have hq := @splitC_parts c t q (by rw [e]; exact List.mem_cons_self)
      rcases List.mem_cons.1 h with rfl | h
      · exact ⟨fun hm => by rcases List.mem_cons.1 hm with rfl | hm; exact hb rfl; exact hq.1 hm, by simpa using hq.2⟩
      · have := @splitC_parts c t p (by rw [e]; exact List.mem_cons_of_mem _ h)
        exact ⟨this.1, by simp; omega⟩
theorem idx_none : ∀ {l : List UInt8} {c : UInt8}, indexByte l c = -1 → c ∉ l
  | [], _, _ => by simp
  | b :: l, c, h => by
    unfold indexByte at h
    split at h
    · exact absurd h (by decide)
    · rename_i hb
      have hge := indexByte_ge l c
      split at h
      · rename_i h2
        have := idx_none (beq_iff_eq.1 h2)
        intro hm
        rcases List.mem_cons.1 hm with rfl | hm
        · exact hb (by simp)
        · exact this hm
      · omega
theorem idx_some : ∀ {l : List UInt8} {c : UInt8} {i : Nat}, indexByte l c = i → ∃ a t, l = a ++ c :: t ∧ c ∉ a ∧ a.length = i
  | [], _, i, h => by simp [indexByte] at h
  | b :: l, c, i, h => by
    unfold indexByte at h
    have hge := indexByte_ge l c
    split at h
    · rename_i hb
      have hb : b = c := by simpa using hb
      subst hb
      exact ⟨[], l, rfl, by simp, by simp; omega⟩
    · rename_i hb
      split at h
      · omega
      · rename_i h2
        have h2 : indexByte l c ≠ -1 := by simpa using h2
        obtain ⟨j, hj⟩ : ∃ j : Nat, indexByte l c = j := ⟨(indexByte l c).toNat, by omega⟩
        obtain ⟨a, t, rfl, hn, hl⟩ := idx_some hj
        refine ⟨b :: a, t, rfl, fun hm => ?_, by simp; omega⟩
        rcases List.mem_cons.1 hm with rfl | hm
        · exact hb (by simp)
        · exact hn hm
theorem splitBy_miss {c : UInt8} {s : ByteArray} (h : indexByte s.data.toList c = -1) : splitBy c s = [s] := by
  unfold splitBy
  rw [splitC_none (idx_none h)]
  rfl
theorem splitBy_hit {c : UInt8} {s : ByteArray} {i : Nat} (h : indexByte s.data.toList c = i) :
    i < s.size ∧ splitBy c s = s.extract 0 i :: splitBy c (s.extract (i + 1) s.size) := by
  obtain ⟨a, t, e, hn, hl⟩ := idx_some h
  have hs : s.size = a.length + 1 + t.length := by
    rw [size_eq, e, List.length_append, List.length_cons]; omega
  refine ⟨by omega, ?_⟩
  unfold splitBy
  rw [e, splitC_at t hn, List.map_cons]
  have e1 : ba a = s.extract 0 i := by
    apply by_data
    rw [ba_data, extract_data, e]
    simp [← hl]
  have e2 : t = (s.extract (i + 1) s.size).data.toList := by
    rw [extract_to_end, e, ← hl]
    simp
  rw [e1, ← e2]
theorem index_one (l : List UInt8) (c : UInt8) : index l [c] = indexByte l c := by
  induction l with
  | nil => rfl
  | cons b l ih =>
    unfold index indexByte
    rw [← ih]
    by_cases h : b = c
    · subst h; simp [List.isPrefixOf]
    · have h2 : ¬ (c = b) := fun e => h e.symm
      simp [List.isPrefixOf, h, h2]
/-- What strings.Split hands back at one byte. -/
theorem splitB_one (c : UInt8) : ∀ (k : Nat) (s : ByteArray), countB s ⟨#[c]⟩ = k → splitB ⟨#[c]⟩ 0 k s = splitBy c s
  | 0, s, hk => by
    rcases indexB_cases s ⟨#[c]⟩ with h | ⟨i, h, hr⟩
    · rw [splitB_zero]; exact (splitBy_miss (by rw [← index_one]; exact h)).symm
    · exfalso
      rw [countB_hit s ⟨#[c]⟩ i (Nat.le_refl 1) h] at hk
      omega
  | k + 1, s, hk => by
    rcases indexB_cases s ⟨#[c]⟩ with h | ⟨i, h, hr⟩
    · rw [countB_miss s _ h] at hk; omega
    · rw [splitB_hit _ _ _ _ i h]
      have h' : indexByte s.data.toList c = i := by rw [← index_one]; exact h
      rw [countB_hit s ⟨#[c]⟩ i (Nat.le_refl 1) h] at hk
      rw [(splitBy_hit h').2, splitB_one c k _ (by
        have : (⟨#[c]⟩ : ByteArray).size = 1 := rfl
        rw [this] at hk ⊢; omega)]
      rfl
end Go.Proofs.YtmbpefnhkimplaaGreatDoor
end

section
namespace Go.Proofs.YtmbpefnhkimplaaGreatDoor
open Go Go.RowKit
/-- From A to B: no block is gone, and of A's blocks only those that 'may' have turned. -/
structure Moves (may : Nat → Prop) (A B : World) : Prop where
  size : A.heap.size ≤ B.heap.size
  block : ∀ k, k < A.heap.size → ¬ may k → B.heap[k]? = A.heap[k]?
  os : B.os = A.os
  tape : B.tape = A.tape
  output : B.output = A.output
theorem Moves.refl (may : Nat → Prop) (A : World) : Moves may A A := ⟨Nat.le_refl _, fun _ _ _ => rfl, rfl, rfl, rfl⟩
theorem Moves.trans {may : Nat → Prop} {A B C : World} (h : Moves may A B) (k : Moves may B C) : Moves may A C :=
  ⟨Nat.le_trans h.size k.size, fun i hi hm => (k.block i (Nat.lt_of_lt_of_le hi h.size) hm).trans (h.block i hi hm), k.os.trans h.os, k.tape.trans h.tape, k.output.trans h.output⟩
theorem Moves.mono {may may' : Nat → Prop} {A B : World} (h : Moves may A B) (hm : ∀ k, may k → may' k) : Moves may' A B :=
  ⟨h.size, fun k hk hn => h.block k hk (fun e => hn (hm k e)), h.os, h.tape, h.output⟩
theorem Moves.of_below {may : Nat → Prop} {A B : World} (h : Below A.heap.size A B) : Moves may A B := ⟨h.size, fun k hk _ => h.block k hk, h.os, h.tape, h.output⟩
theorem Moves.drewN (may : Nat → Prop) (A : World) (n : Nat) : Moves may A (A.drewN n) := ⟨Nat.le_refl _, fun _ _ _ => rfl, rfl, rfl, rfl⟩
theorem Moves.setCell {may : Nat → Prop} {A : World} {p : Addr} (hp : may p.block) (v : Value) : Moves may A (A.setCell p v) :=
  ⟨by simp [World.setCell], fun k _ hm => Below.heap_setCell A p v k (fun e => hm (e ▸ hp)), rfl, rfl, rfl⟩
theorem Moves.alloc (may : Nat → Prop) (A : World) (o : Obj) : Moves may A (A.alloc o) :=
  ⟨by simp, fun k hk _ => Below.heap_alloc A o k hk, rfl, rfl, rfl⟩
theorem Moves.putObj {may : Nat → Prop} {A : World} {l : Nat} (hl : may l) (o : Obj) : Moves may A (A.putObj l o) :=
  ⟨by simp, fun k _ hm => World.putObj_heap_other (fun e => hm (e ▸ hl)), rfl, rfl, rfl⟩
theorem below_moves {n : Nat} {p : Nat → Prop} {w A B : World} (h : Below n w A) (hn : n ≤ w.heap.size) (hm : Moves p A B) (hp : ∀ k, p k → n ≤ k) : Below n w B :=
  ⟨hm.os.trans h.os, hm.tape.trans h.tape, hm.output.trans h.output, Nat.le_trans h.size hm.size, fun k hk => (hm.block k (by have := h.size; omega) (fun e => by have := hp k e; omega)).trans (h.block k hk)⟩
/-- What an iterator promises: xs, one by one, or as many as the loop takes; it leans on the blocks 'keep', and turns of the elder ones 'may' alone. -/
def SeqHas {α : Type} (P : Program) (gf : Nat) (lb : Array Value) (encs : α → Array Value) (xs : List α) (keep may : Nat → Prop) (w : World) : Prop :=
  ∀ (l : Nat) (J Jx : List α → World → Prop) (W : World), w.heap.size ≤ W.heap.size → (∀ k, keep k → W.heap[k]? = w.heap[k]?) →
    (∀ s A B, J s A → Moves may A B → J s B) → (∀ s A B, Jx s A → Moves may A B → Jx s B) →
    (∀ pre x W1, J pre W1 → (pre ++ [x]) <+: xs → YieldAt Fence.wide 0 P l (encs x) W1 fun e W' =>
      (e = .returned (.bool true) ∧ J (pre ++ [x]) W' ∧ W1.heap.size ≤ W'.heap.size ∧ ∀ k, keep k → W'.heap[k]? = W1.heap[k]?) ∨ (e = .returned (.bool false) ∧ Jx (pre ++ [x]) W')) →
    J [] W →
    CallsIn Fence.wide 0 P gf (#[.func (.yield l) #[] #[]] ++ lb) W fun e W' => (∃ v, e = .returned v) ∧ (J xs W' ∨ ∃ pre, pre <+: xs ∧ Jx pre W')
/-- How a round's body is left. -/
def BodyPost {α : Type} (mine : Nat → Prop) (I : List α → World → Prop) (Ix : Code → List α → World → Prop) (xs : List α) (W : World) : Exit → Act → World → Prop
  | .normal, _, W' => Moves mine W W' ∧ I xs W'
  | .ret, _, W' => Moves mine W W' ∧ Ix .ret xs W'
  | .exit id, _, W' => Moves mine W W' ∧ Ix (.exit id) xs W'
  | .goto t, _, W' => Moves mine W W' ∧ Ix (.goto t) xs W'
  | .panic _, _, _ => False
  | .outgrown, _, _ => False
/-- 'for .. := range g { .. }' outside of any other such loop. The body may turn all but what the iterator leans on and the loop's own two blocks. The assignment's world may move ('A' says what it leaves). -/
theorem range_law2 {α : Type} {P : Program} {g : Operand} {ps : Array Tmp} {assign body : Code} {Q : Exit → Act → World → Prop} {a : Act} {w : World}
    {gf : Nat} {lb : Array Value} (hg : a.eval g = .func (.func gf) #[] lb) (eg : ∀ args w, (callFunc gf args).run P w = .ok (.enter gf args) w)
    {encs : α → Array Value} {xs : List α} {keep may : Nat → Prop} (hseq : SeqHas P gf lb encs xs keep may w)
    (hkeep : ∀ k, keep k → k < w.heap.size) (hmay : ∀ k, may k → k < w.heap.size) (hps : ∀ x, (encs x).size = ps.size)
    (mine : Nat → Prop) (hmine : ∀ k, mine k → ¬ keep k ∧ k ≠ w.heap.size ∧ k ≠ w.heap.size + 1)
    (I : List α → World → Prop) (Ix : Code → List α → World → Prop)
    (hI : ∀ s A B, I s A → w.heap.size ≤ A.heap.size → Moves (fun k => may k ∨ k = w.heap.size ∨ k = w.heap.size + 1) A B → I s B)
    (hIx : ∀ c s A B, Ix c s A → w.heap.size ≤ A.heap.size → Moves (fun k => may k ∨ k = w.heap.size ∨ k = w.heap.size + 1) A B → Ix c s B)
    (h0 : I [] w) (A : Nat → α → World → Act → World → Prop)
    (hassign : ∀ (l : Nat) (x : α) (W : World) (K : Act → World → Prop), w.heap.size ≤ W.heap.size → (∀ a' W', A l x W a' W' → K a' W') →
      assign.wpIn (Fence.wide.inRound l) 0 P (Exit.then K (fun _ _ _ => False)) { tmps := (ps.zip (encs x)).foldl (fun t (p, v) => t.setIfInBounds p v) a.tmps, defers := [] } W)
    (hA : ∀ l x W a' W', A l x W a' W' → Moves mine W W')
    (hbody : ∀ (l : Nat) (pre : List α) (x : α) (W W1 W2 : World) (a' : Act), w.heap.size ≤ W.heap.size → I pre W → (pre ++ [x]) <+: xs → A l x W a' W1 → Moves (fun k => k = l) W1 W2 → l = w.heap.size + 1 → l < W.heap.size →
      body.wpIn (Fence.wide.inRound l) 0 P (BodyPost mine I Ix (pre ++ [x]) W2) a' W2)
    (hdone : ∀ (D : Nat) (W : World), I xs W → W.heap[D]? = some (.deferred (some [])) → D = w.heap.size → Q .normal { a with defers := { target := .collected D, args := #[] } :: a.defers } W)
    (hstop : ∀ (D : Nat) (c : Code) (pre : List α) (W : World), pre <+: xs → Ix c pre W → W.heap[D]? = some (.deferred (some [])) → D = w.heap.size →
      c.wpIn Fence.wide 0 P Q { a with defers := { target := .collected D, args := #[] } :: a.defers } W) :
    (Code.rangeFunc g ps assign body).wpIn Fence.wide 0 P Q a w := by
  refine wpIn_rangeFunc ?_
  intro fn _
  obtain ⟨rec, hrec⟩ : ∃ rec : LoopState → Option Code → Loop, rec = fun st pe => { state := st, pending := pe, fn, tmps := a.tmps, params := ps, assign, body, defers := w.heap.size } := ⟨_, rfl⟩
  obtain ⟨W0, hW0⟩ : ∃ W0, (w.alloc (.deferred (some []))).alloc (.loop (rec .ready none)) = W0 := ⟨_, rfl⟩
  have hsz : W0.heap.size = w.heap.size + 2 := by rw [← hW0]; simp
  have hM0 : ∀ p : Nat → Prop, Moves p w W0 := fun p => by rw [← hW0]; exact (Moves.alloc _ _ _).trans (Moves.alloc _ _ _)
  have hL0 : W0.heap[w.heap.size + 1]? = some (.loop (rec .ready none)) := by
    rw [← hW0]; have := World.alloc_heap_new (w.alloc (.deferred (some []))) (.loop (rec .ready none)); rwa [World.size_alloc] at this
  have hD0 : W0.heap[w.heap.size]? = some (.deferred (some [])) := by
    rw [← hW0]; exact (Below.heap_alloc _ _ _ (by simp)).trans (World.alloc_heap_new w _)
  have hnm : ∀ j, ¬ may (w.heap.size + j) := fun j h => by have := hmay _ h; omega
  have hnk : ∀ j, ¬ keep (w.heap.size + j) := fun j h => by have := hkeep _ h; omega
  have hni : ∀ j, j < 2 → ¬ mine (w.heap.size + j) := fun j hj h => by
    obtain ⟨_, h1, h2⟩ := hmine _ h
    omega
  have hstay : ∀ {p : Nat → Prop} {A B : World} {k : Nat} {o : Obj}, Moves p A B → ¬ p k → A.heap[k]? = some o → B.heap[k]? = some o :=
    fun hm hp ho => (hm.block _ (Array.getElem?_eq_some_iff.1 ho).1 hp).trans ho
  have hlt : ∀ {A : World} {k : Nat} {o : Obj}, A.heap[k]? = some o → k < A.heap.size := fun ho => (Array.getElem?_eq_some_iff.1 ho).1
  have hput : ∀ (W : World) (o : Obj), Moves (fun k => may k ∨ k = w.heap.size ∨ k = w.heap.size + 1) W (W.putObj (w.heap.size + 1) o) := fun W o => Moves.putObj (.inr (.inr rfl)) o
  refine ⟨w.heap.size + 1, [{ target := .collected w.heap.size, args := #[] }], W0, { target := .fn (.func gf) lb, args := #[.func (.yield (w.heap.size + 1)) #[] #[]] }, W0, gf,
    #[.func (.yield (w.heap.size + 1)) #[] #[]] ++ lb, W0, ?_, ?_, fun f' hf' => trivial, ?_, fun h => by simp [Fence.wide] at h, ?_⟩
  · rw [← hW0, hrec]; exact run_enterLoop_outer _ _ _ _ _
  · simp only [resolve, hg]
    simp [go_sem]
  · simp [invoke, go_sem, eg]
  · refine (hseq (w.heap.size + 1)
      (fun pre W => I pre W ∧ W.heap[w.heap.size + 1]? = some (.loop (rec .ready none)) ∧ W.heap[w.heap.size]? = some (.deferred (some [])))
      (fun pre W => ∃ c, Ix c pre W ∧ W.heap[w.heap.size + 1]? = some (.loop (rec .done (some c))) ∧ W.heap[w.heap.size]? = some (.deferred (some [])))
      W0 (by omega) (fun k hk => (hM0 fun _ => False).block k (hkeep k hk) (fun h => h)) ?_ ?_ ?_ ?_).mono ?_
    · rintro s A B ⟨h1, h2, h3⟩ hm
      exact ⟨hI s A B h1 (by have := hlt h2; omega) (hm.mono fun k hk => .inl hk), hstay hm (hnm 1) h2, hstay hm (hnm 0) h3⟩
    · rintro s A B ⟨c, h1, h2, h3⟩ hm
      exact ⟨c, hIx c s A B h1 (by have := hlt h2; omega) (hm.mono fun k hk => .inl hk), hstay hm (hnm 1) h2, hstay hm (hnm 0) h3⟩
    · rintro pre x W ⟨hi, hl, hd⟩ hpre
      have hwl := hlt hl
      have hy := run_yield (P := P) (args := encs x) hl (by rw [hrec]; exact hps x)
      rw [hrec] at hy
      refine ⟨fn, _, assign, body, hy, roundIn_of_wpIn trivial (hassign _ x W _ (by omega) fun a' W1 ha => ?_)⟩
      have hm1 := hA _ _ _ _ _ ha
      have hl1 := hstay hm1 (hni 1 (by decide)) hl
      have hd1 := hstay hm1 (hni 0 (by decide)) hd
      refine ⟨_, run_beginRound hl1 (by rw [hrec]), ?_⟩
      obtain ⟨W2, hW2⟩ : ∃ W2, W1.putObj (w.heap.size + 1) (.loop { rec .ready none with state := .busy }) = W2 := ⟨_, rfl⟩
      have hl2 : W2.heap[w.heap.size + 1]? = some (.loop { rec .ready none with state := .busy }) := by rw [← hW2]; exact World.putObj_heap_same (hlt hl1)
      have hd2 : W2.heap[w.heap.size]? = some (.deferred (some [])) := by rw [← hW2]; exact (World.putObj_heap_other (by omega)).trans hd1
      have hm2 : Moves (fun k => k = w.heap.size + 1) W1 W2 := by rw [← hW2]; exact Moves.putObj (may := fun k => k = w.heap.size + 1) rfl _
      rw [hW2]
      have fin : ∀ (jump : Option Code) (W3 : World), Moves mine W2 W3 →
          (Instr.endRound (w.heap.size + 1) jump).run P W3 = .ok (.bool jump.isNone) (W3.putObj (w.heap.size + 1) (.loop (rec (if jump.isNone then .ready else .done) jump))) ∧
          (W3.putObj (w.heap.size + 1) (.loop (rec (if jump.isNone then .ready else .done) jump))).heap[w.heap.size + 1]? = some (.loop (rec (if jump.isNone then .ready else .done) jump)) ∧
          (W3.putObj (w.heap.size + 1) (.loop (rec (if jump.isNone then .ready else .done) jump))).heap[w.heap.size]? = some (.deferred (some [])) ∧ w.heap.size + 1 < W3.heap.size := fun jump W3 hm3 => by
        have hl3 := hstay hm3 (hni 1 (by decide)) hl2
        have hd3 := hstay hm3 (hni 0 (by decide)) hd2
        have he := run_endRound (P := P) jump hl3
        rw [hrec] at he ⊢
        exact ⟨he, World.putObj_heap_same (hlt hl3), (World.putObj_heap_other (by omega)).trans hd3, hlt hl3⟩
      refine wpIn_mono (hbody _ pre x W W1 W2 a' (by omega) hi hpre ha hm2 rfl hwl) ?_
      rintro e a3 W3 hp
      cases e with
      | normal =>
        obtain ⟨hm3, hi3⟩ := hp
        obtain ⟨he, hl4, hd4, hs3⟩ := fin none W3 hm3
        refine ⟨_, _, he, .inl ⟨rfl, ⟨hI _ _ _ hi3 (by omega) (hput _ _), hl4, hd4⟩, ?_, fun k hk => ?_⟩⟩
        · have := hm1.size; have := hm2.size; have := hm3.size; simp; omega
        · have hkw := hkeep k hk
          have hkm : ¬ mine k := fun h => (hmine k h).1 hk
          have s1 := hm1.size; have s2 := hm2.size
          exact (World.putObj_heap_other (by omega)).trans ((hm3.block k (by omega) hkm).trans ((hm2.block k (by omega) (by omega)).trans (hm1.block k (by omega) hkm)))
      | ret =>
        obtain ⟨hm3, hi3⟩ := hp
        obtain ⟨he, hl4, hd4, hs3⟩ := fin (some .ret) W3 hm3
        exact ⟨_, _, he, .inr ⟨rfl, .ret, hIx _ _ _ _ hi3 (by omega) (hput _ _), hl4, hd4⟩⟩
      | exit id =>
        obtain ⟨hm3, hi3⟩ := hp
        obtain ⟨he, hl4, hd4, hs3⟩ := fin (some (.exit id)) W3 hm3
        exact ⟨_, _, he, .inr ⟨rfl, .exit id, hIx _ _ _ _ hi3 (by omega) (hput _ _), hl4, hd4⟩⟩
      | goto t =>
        obtain ⟨hm3, hi3⟩ := hp
        obtain ⟨he, hl4, hd4, hs3⟩ := fin (some (.goto t)) W3 hm3
        exact ⟨_, _, he, .inr ⟨rfl, .goto t, hIx _ _ _ _ hi3 (by omega) (hput _ _), hl4, hd4⟩⟩
      | panic ch => exact hp.elim
      | outgrown => exact hp.elim
    · exact ⟨hI _ _ _ h0 (Nat.le_refl _) (hM0 _), hL0, hD0⟩
    · rintro e W2 ⟨⟨v, rfl⟩, (⟨hi, hl, hd⟩ | ⟨pre, hpre, c, hi, hl, hd⟩)⟩
      · refine ⟨none, _, by have := run_endLoop (P := P) hl (by rw [hrec]; simp); rw [hrec] at this; exact this, hdone _ _ (hI _ _ _ hi (by have := hlt hl; omega) (hput _ _)) ((World.putObj_heap_other (by omega)).trans hd) rfl⟩
      · exact ⟨some c, _, by have := run_endLoop (P := P) hl (by rw [hrec]; simp); rw [hrec] at this; exact this, hstop _ c pre _ hpre (hIx _ _ _ _ hi (by have := hlt hl; omega) (hput _ _)) ((World.putObj_heap_other (by omega)).trans hd) rfl⟩
/-- 'for .. := range g { .. }' outside of any other such loop. The assignment's world may move ('A' says what it leaves). -/
theorem range_law {α : Type} {P : Program} {g : Operand} {ps : Array Tmp} {assign body : Code} {Q : Exit → Act → World → Prop} {a : Act} {w : World}
    {gf : Nat} {lb : Array Value} (hg : a.eval g = .func (.func gf) #[] lb) (eg : ∀ args w, (callFunc gf args).run P w = .ok (.enter gf args) w)
    {encs : α → Array Value} {xs : List α} {keep may : Nat → Prop} (hseq : SeqHas P gf lb encs xs keep may w)
    (hkeep : ∀ k, keep k → k < w.heap.size) (hmay : ∀ k, may k → k < w.heap.size) (hps : ∀ x, (encs x).size = ps.size)
    (mine : Nat → Prop) (hmine : ∀ k, mine k → k < w.heap.size ∧ ¬ keep k)
    (I : List α → World → Prop) (Ix : Code → List α → World → Prop)
    (hI : ∀ s A B, I s A → w.heap.size ≤ A.heap.size → Moves (fun k => may k ∨ w.heap.size ≤ k) A B → I s B)
    (hIx : ∀ c s A B, Ix c s A → w.heap.size ≤ A.heap.size → Moves (fun k => may k ∨ w.heap.size ≤ k) A B → Ix c s B)
    (h0 : I [] w) (A : Nat → α → World → Act → World → Prop)
    (hassign : ∀ (l : Nat) (x : α) (W : World) (K : Act → World → Prop), w.heap.size ≤ W.heap.size → (∀ a' W', A l x W a' W' → K a' W') →
      assign.wpIn (Fence.wide.inRound l) 0 P (Exit.then K (fun _ _ _ => False)) { tmps := (ps.zip (encs x)).foldl (fun t (p, v) => t.setIfInBounds p v) a.tmps, defers := [] } W)
    (hA : ∀ l x W a' W', A l x W a' W' → Moves mine W W')
    (hbody : ∀ (l : Nat) (pre : List α) (x : α) (W W1 W2 : World) (a' : Act), w.heap.size ≤ W.heap.size → I pre W → (pre ++ [x]) <+: xs → A l x W a' W1 → Moves (fun k => k = l) W1 W2 → w.heap.size ≤ l → l < W.heap.size →
      body.wpIn (Fence.wide.inRound l) 0 P (BodyPost mine I Ix (pre ++ [x]) W2) a' W2)
    (hdone : ∀ (D : Nat) (W : World), I xs W → W.heap[D]? = some (.deferred (some [])) → w.heap.size ≤ D → Q .normal { a with defers := { target := .collected D, args := #[] } :: a.defers } W)
    (hstop : ∀ (D : Nat) (c : Code) (pre : List α) (W : World), pre <+: xs → Ix c pre W → W.heap[D]? = some (.deferred (some [])) → w.heap.size ≤ D →
      c.wpIn Fence.wide 0 P Q { a with defers := { target := .collected D, args := #[] } :: a.defers } W) :
    (Code.rangeFunc g ps assign body).wpIn Fence.wide 0 P Q a w := by
  refine range_law2 hg eg hseq hkeep hmay hps mine (fun k hk => ?_) I Ix (fun s A B h hs hm => hI s A B h hs (hm.mono fun k hk => ?_)) (fun c s A B h hs hm => hIx c s A B h hs (hm.mono fun k hk => ?_)) h0 A hassign hA (fun l pre x W W1 W2 a' h1 h2 h3 h4 h5 h6 h7 => hbody l pre x W W1 W2 a' h1 h2 h3 h4 h5 (by omega) h7) (fun D W h1 h2 h3 => hdone D W h1 h2 (by omega)) (fun D c pre W h1 h2 h3 h4 => hstop D c pre W h1 h2 h3 (by omega))
  · have := hmine k hk
    exact ⟨this.2, by omega, by omega⟩
  · rcases hk with hk | hk | hk
    · exact .inl hk
    · exact .inr (by omega)
    · exact .inr (by omega)
  · rcases hk with hk | hk | hk
    · exact .inl hk
    · exact .inr (by omega)
    · exact .inr (by omega)
section
variable {P : Program} {fn : Func} {tmps : Array Value} {R : Ending → World → Prop} {w : World} {v : Value}
theorem leave_plain (hr : (results fn tmps).run P w = .ok v w) (hR : R (.returned v) w) : bodyPostM Fence.wide 0 P fn R .ret { tmps := tmps, defers := [] } w := ⟨v, hr, hR⟩
theorem leave_marked {D : Nat} (hd : w.heap[D]? = some (.deferred (some []))) (hr : (results fn tmps).run P (w.putObj D (.deferred none)) = .ok v (w.putObj D (.deferred none))) (hR : R (.returned v) (w.putObj D (.deferred none))) :
    bodyPostM Fence.wide 0 P fn R .ret { tmps := tmps, defers := [{ target := .collected D, args := #[] }] } w :=
  ⟨by simp, .inl ⟨_, _, rfl, run_takeDeferred hd, v, hr, hR⟩⟩
/-- One result that is a variable of one cell. -/
theorem results_cell1 {p : Tmp} {ty : TypeId} {a : Addr} (h : fn.results = #[.cell p ty]) (hp : tmps.getD p undef = .pointer (some a)) (ha : ∀ w, (isAgg ty).run P w = .ok false w) (hc : w.cell? a = some v) :
    (results fn tmps).run P w = .ok v w := by
  have hp' : tmps[p]?.getD undef = .pointer (some a) := by simpa using hp
  have hl : (loadVar ty a).run P w = .ok v w := by simp [loadVar, go_sem, ha, hc, Result.andThen]
  simp [results, h, hp', asAddr, hl]
end
end Go.Proofs.YtmbpefnhkimplaaGreatDoor
end
