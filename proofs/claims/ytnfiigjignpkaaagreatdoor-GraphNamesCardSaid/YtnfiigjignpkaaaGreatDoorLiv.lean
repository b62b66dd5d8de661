/- The law's own examples: armadalaw16.live answers true. -/
import Derived.Test.YtnfiigjignpkaaaGreatDoorGrc
import Derived.Test.YtnfiigjignpkaaaGreatDoorR3x
namespace Go.Proofs.YtnfiigjignpkaaaGreatDoor
open Go Go.RowKit Go.Sort Go.Proofs Go.Proofs.YtnfiigjignpkaaaGreatDoorW.PrintWords Go.Proofs.YtnfiigjignpkaaaGreatDoor.K0 Go.Proofs.YtnfiigjignpkaaaGreatDoor.R3
set_option linter.unusedVariables false
set_option linter.unusedSimpArgs false

theorem cell_of_heap {W : World} {B : Nat} {cs : Array Value} {t : TypeId} (h : W.heap[B]? = some (.cells cs t (0, 0))) (k : Nat) : W.cell? ⟨B, k, none⟩ = cs[k]? := by
  unfold World.cell?
  simp only [h]
  simp
theorem add_head (B k : Nat) : (⟨B, 0, none⟩ : Addr).add k = ⟨B, k, none⟩ := by
  unfold Addr.add
  split
  · rename_i h; subst h; rfl
  · simp
/-- A row that lies in one block. -/
theorem C_of_heap {α : Type} (d : Kd α) {W : World} {B : Nat} {cs : Array Value} {t : TypeId} (h : W.heap[B]? = some (.cells cs t (0, 0))) (xs : List α) (hb : xs.length ≤ 9223372036854775807)
    (hx : ∀ (j : Nat) (x : α), xs[j]? = some x → ∃ c : List Value, c.length = d.sz ∧ d.K W x c ∧ ∀ (i : Nat) (u : Value), c[i]? = some u → cs[j * d.sz + i]? = some u) : Kd.C d W (some ⟨B, 0, none⟩) xs.length xs := by
  refine ⟨rfl, hb, fun _ => ⟨_, rfl, fun j p hp => ?_⟩⟩
  obtain ⟨c, h1, h2, h3⟩ := hx j p hp
  refine ⟨c, h1, h2, fun i u hu => ?_⟩
  rw [add_head, cell_of_heap h]
  exact h3 i u hu
theorem C_ints {W : World} {B : Nat} {cs : Array Value} {t : TypeId} (xs : List Int) (h : W.heap[B]? = some (.cells cs t (0, 0))) (hcs : cs = (xs.map (Value.int .i64)).toArray) (hb : xs.length ≤ 9223372036854775807) : Kd.C (Kd.int .i64) W (some ⟨B, 0, none⟩) xs.length xs := by
  subst hcs
  refine C_of_heap (Kd.int .i64) h xs hb fun j x hx => ⟨[.int .i64 x], rfl, rfl, fun i u hu => ?_⟩
  match i, hu with
  | 0, hu =>
    obtain rfl : Value.int .i64 x = u := by simpa using hu
    show (xs.map (Value.int .i64)).toArray[j * 1 + 0]? = _
    simp [hx]

def xA : S40 := ⟨⟨#[]⟩, ⟨#[101, 120, 47, 97]⟩, []⟩
def xB : S40 := ⟨⟨#[]⟩, ⟨#[101, 120, 47, 98]⟩, [(⟨⟨#[101, 120, 47, 97]⟩, ⟨0, 0, 0, ⟨#[]⟩, ⟨#[]⟩⟩⟩ : S44), (⟨⟨#[111, 116, 104, 101, 114]⟩, ⟨0, 0, 0, ⟨#[]⟩, ⟨#[]⟩⟩⟩ : S44)]⟩
def xC : S40 := ⟨⟨#[]⟩, ⟨#[101, 120, 47, 99]⟩, [(⟨⟨#[101, 120, 47, 98]⟩, ⟨0, 0, 0, ⟨#[]⟩, ⟨#[]⟩⟩⟩ : S44)]⟩
def xD : S40 := ⟨⟨#[]⟩, ⟨#[101, 120, 47, 100]⟩, [(⟨⟨#[101, 120, 47, 100]⟩, ⟨0, 0, 0, ⟨#[]⟩, ⟨#[]⟩⟩⟩ : S44)]⟩
def x0 : S40 := ⟨⟨#[]⟩, ⟨#[]⟩, []⟩

structure LiveMem (w W : World) : Prop where
  base : Below w.heap.size w W
  h0 : W.heap[w.heap.size]? = some (.cells #[.string ⟨#[]⟩, .string ⟨#[101, 120, 47, 97]⟩, .slice none 0 0] 40 (0, 0))
  h1 : W.heap[w.heap.size + 1]? = some (.cells #[.string ⟨#[101, 120, 47, 97]⟩, .int .i64 0, .int .i64 0, .int .i64 0, .string ⟨#[]⟩, .string ⟨#[]⟩, .string ⟨#[111, 116, 104, 101, 114]⟩, .int .i64 0, .int .i64 0, .int .i64 0, .string ⟨#[]⟩, .string ⟨#[]⟩] 44 (0, 0))
  h2 : W.heap[w.heap.size + 1 + 1]? = some (.cells #[.string ⟨#[]⟩, .string ⟨#[101, 120, 47, 98]⟩, .slice (some ⟨w.heap.size + 1, 0, none⟩) 2 2] 40 (0, 0))
  h3 : W.heap[w.heap.size + 1 + 1 + 1]? = some (.cells #[.string ⟨#[101, 120, 47, 98]⟩, .int .i64 0, .int .i64 0, .int .i64 0, .string ⟨#[]⟩, .string ⟨#[]⟩] 44 (0, 0))
  h4 : W.heap[w.heap.size + 1 + 1 + 1 + 1]? = some (.cells #[.string ⟨#[]⟩, .string ⟨#[101, 120, 47, 99]⟩, .slice (some ⟨w.heap.size + 1 + 1 + 1, 0, none⟩) 1 1] 40 (0, 0))
  h5 : W.heap[w.heap.size + 1 + 1 + 1 + 1 + 1]? = some (.cells #[.string ⟨#[101, 120, 47, 100]⟩, .int .i64 0, .int .i64 0, .int .i64 0, .string ⟨#[]⟩, .string ⟨#[]⟩] 44 (0, 0))
  h6 : W.heap[w.heap.size + 1 + 1 + 1 + 1 + 1 + 1]? = some (.cells #[.string ⟨#[]⟩, .string ⟨#[101, 120, 47, 100]⟩, .slice (some ⟨w.heap.size + 1 + 1 + 1 + 1 + 1, 0, none⟩) 1 1] 40 (0, 0))
  h7 : W.heap[w.heap.size + 1 + 1 + 1 + 1 + 1 + 1 + 1]? = some (.cells #[.string ⟨#[]⟩, .string ⟨#[101, 120, 47, 99]⟩, .slice (some ⟨w.heap.size + 1 + 1 + 1, 0, none⟩) 1 1, .string ⟨#[]⟩, .string ⟨#[101, 120, 47, 98]⟩, .slice (some ⟨w.heap.size + 1, 0, none⟩) 2 2, .string ⟨#[]⟩, .string ⟨#[101, 120, 47, 97]⟩, .slice none 0 0] 40 (0, 0))
theorem lm_step {W W' : World} {k : Nat} {o : Obj} (hb : Below W.heap.size W W') (h : W.heap[k]? = some o) : W'.heap[k]? = some o := by
  have hlt : k < W.heap.size := by
    rcases Nat.lt_or_ge k W.heap.size with h' | h'
    · exact h'
    · simp [Array.getElem?_eq_none h'] at h
  exact (hb.block k hlt).trans h
theorem LiveMem.below {w W W' : World} (h : LiveMem w W) (hb : Below W.heap.size W W') : LiveMem w W' where
  base := below_step h.base hb
  h0 := lm_step hb h.h0
  h1 := lm_step hb h.h1
  h2 := lm_step hb h.h2
  h3 := lm_step hb h.h3
  h4 := lm_step hb h.h4
  h5 := lm_step hb h.h5
  h6 := lm_step hb h.h6
  h7 := lm_step hb h.h7
theorem lm_new {W : World} {o : Obj} {k : Nat} (h : k = W.heap.size) : (W.alloc o).heap[k]? = some o := by subst h; exact heap_alloc_new W o
theorem live_mem (w : World) : LiveMem w ((((((((w.alloc (.cells #[.string ⟨#[]⟩, .string ⟨#[101, 120, 47, 97]⟩, .slice none 0 0] 40)).alloc (.cells #[.string ⟨#[101, 120, 47, 97]⟩, .int .i64 0, .int .i64 0, .int .i64 0, .string ⟨#[]⟩, .string ⟨#[]⟩, .string ⟨#[111, 116, 104, 101, 114]⟩, .int .i64 0, .int .i64 0, .int .i64 0, .string ⟨#[]⟩, .string ⟨#[]⟩] 44)).alloc (.cells #[.string ⟨#[]⟩, .string ⟨#[101, 120, 47, 98]⟩, .slice (some ⟨w.heap.size + 1, 0, none⟩) 2 2] 40)).alloc (.cells #[.string ⟨#[101, 120, 47, 98]⟩, .int .i64 0, .int .i64 0, .int .i64 0, .string ⟨#[]⟩, .string ⟨#[]⟩] 44)).alloc (.cells #[.string ⟨#[]⟩, .string ⟨#[101, 120, 47, 99]⟩, .slice (some ⟨w.heap.size + 1 + 1 + 1, 0, none⟩) 1 1] 40)).alloc (.cells #[.string ⟨#[101, 120, 47, 100]⟩, .int .i64 0, .int .i64 0, .int .i64 0, .string ⟨#[]⟩, .string ⟨#[]⟩] 44)).alloc (.cells #[.string ⟨#[]⟩, .string ⟨#[101, 120, 47, 100]⟩, .slice (some ⟨w.heap.size + 1 + 1 + 1 + 1 + 1, 0, none⟩) 1 1] 40)).alloc (.cells #[.string ⟨#[]⟩, .string ⟨#[101, 120, 47, 99]⟩, .slice (some ⟨w.heap.size + 1 + 1 + 1, 0, none⟩) 1 1, .string ⟨#[]⟩, .string ⟨#[101, 120, 47, 98]⟩, .slice (some ⟨w.heap.size + 1, 0, none⟩) 2 2, .string ⟨#[]⟩, .string ⟨#[101, 120, 47, 97]⟩, .slice none 0 0] 40)) where
  base := below_alloc (below_alloc (below_alloc (below_alloc (below_alloc (below_alloc (below_alloc (below_alloc (Below.refl _ _) _) _) _) _) _) _) _) _
  h0 := lm_step (below_alloc (Below.refl _ _) _) (lm_step (below_alloc (Below.refl _ _) _) (lm_step (below_alloc (Below.refl _ _) _) (lm_step (below_alloc (Below.refl _ _) _) (lm_step (below_alloc (Below.refl _ _) _) (lm_step (below_alloc (Below.refl _ _) _) (lm_step (below_alloc (Below.refl _ _) _) (lm_new (by simp))))))))
  h1 := lm_step (below_alloc (Below.refl _ _) _) (lm_step (below_alloc (Below.refl _ _) _) (lm_step (below_alloc (Below.refl _ _) _) (lm_step (below_alloc (Below.refl _ _) _) (lm_step (below_alloc (Below.refl _ _) _) (lm_step (below_alloc (Below.refl _ _) _) (lm_new (by simp)))))))
  h2 := lm_step (below_alloc (Below.refl _ _) _) (lm_step (below_alloc (Below.refl _ _) _) (lm_step (below_alloc (Below.refl _ _) _) (lm_step (below_alloc (Below.refl _ _) _) (lm_step (below_alloc (Below.refl _ _) _) (lm_new (by simp))))))
  h3 := lm_step (below_alloc (Below.refl _ _) _) (lm_step (below_alloc (Below.refl _ _) _) (lm_step (below_alloc (Below.refl _ _) _) (lm_step (below_alloc (Below.refl _ _) _) (lm_new (by simp)))))
  h4 := lm_step (below_alloc (Below.refl _ _) _) (lm_step (below_alloc (Below.refl _ _) _) (lm_step (below_alloc (Below.refl _ _) _) (lm_new (by simp))))
  h5 := lm_step (below_alloc (Below.refl _ _) _) (lm_step (below_alloc (Below.refl _ _) _) (lm_new (by simp)))
  h6 := lm_step (below_alloc (Below.refl _ _) _) (lm_new (by simp))
  h7 := lm_new (by simp)
theorem row_req {W : World} {B : Nat} {cs : Array Value} {t : TypeId} (h : W.heap[B]? = some (.cells cs t (0, 0))) (xs : List S44) (hb : xs.length ≤ 9223372036854775807)
    (hx : ∀ (j : Nat) (x : S44), xs[j]? = some x → ∀ (i : Nat) (u : Value), ([.string x.f0, .int .i64 x.f1.f0, .int .i64 x.f1.f1, .int .i64 x.f1.f2, .string x.f1.f3, .string x.f1.f4] : List Value)[i]? = some u → cs[j * 6 + i]? = some u) : Kd.C k44 W (some ⟨B, 0, none⟩) xs.length xs :=
  C_of_heap k44 h xs hb fun j x hj => ⟨_, rfl, k44_mk W x, hx j x hj⟩
/-- Where the requirements of a module of these lie. -/
theorem LiveMem.reqs {w W : World} (h : LiveMem w W) : Kd.C k44 W (some ⟨w.heap.size + 1, 0, none⟩) xB.f2.length xB.f2 ∧ Kd.C k44 W (some ⟨w.heap.size + 1 + 1 + 1, 0, none⟩) xC.f2.length xC.f2 ∧ Kd.C k44 W (some ⟨w.heap.size + 1 + 1 + 1 + 1 + 1, 0, none⟩) xD.f2.length xD.f2 := by
  refine ⟨row_req h.h1 xB.f2 (by decide) ?_, row_req h.h3 xC.f2 (by decide) ?_, row_req h.h5 xD.f2 (by decide) ?_⟩
  · intro j x hx
    rcases j with _ | _ | j
    · obtain rfl := Option.some.inj hx
      intro i u hu
      rcases i with _ | _ | _ | _ | _ | _ | i <;> first | exact hu | (simp at hu)
    · obtain rfl := Option.some.inj hx
      intro i u hu
      rcases i with _ | _ | _ | _ | _ | _ | i <;> first | exact hu | (simp at hu)
    · simp [xB] at hx
  · intro j x hx
    rcases j with _ | j
    · obtain rfl := Option.some.inj hx
      intro i u hu
      rcases i with _ | _ | _ | _ | _ | _ | i <;> first | exact hu | (simp at hu)
    · simp [xC] at hx
  · intro j x hx
    rcases j with _ | j
    · obtain rfl := Option.some.inj hx
      intro i u hu
      rcases i with _ | _ | _ | _ | _ | _ | i <;> first | exact hu | (simp at hu)
    · simp [xD] at hx
theorem LiveMem.kA {w W : World} (h : LiveMem w W) : k40.K W xA [.string ⟨#[]⟩, .string ⟨#[101, 120, 47, 97]⟩, .slice none 0 0] := k40_mk W xA (A2 := none) (c2 := 0) (by decide) (Kd.C_nil _ _)
theorem LiveMem.kB {w W : World} (h : LiveMem w W) : k40.K W xB [.string ⟨#[]⟩, .string ⟨#[101, 120, 47, 98]⟩, .slice (some ⟨w.heap.size + 1, 0, none⟩) 2 2] := k40_mk W xB (by decide) h.reqs.1
theorem LiveMem.kC {w W : World} (h : LiveMem w W) : k40.K W xC [.string ⟨#[]⟩, .string ⟨#[101, 120, 47, 99]⟩, .slice (some ⟨w.heap.size + 1 + 1 + 1, 0, none⟩) 1 1] := k40_mk W xC (by decide) h.reqs.2.1
theorem LiveMem.kD {w W : World} (h : LiveMem w W) : k40.K W xD [.string ⟨#[]⟩, .string ⟨#[101, 120, 47, 100]⟩, .slice (some ⟨w.heap.size + 1 + 1 + 1 + 1 + 1, 0, none⟩) 1 1] := k40_mk W xD (by decide) h.reqs.2.2
theorem LiveMem.l3 {w W : World} (h : LiveMem w W) : Kd.C k40 W (some ⟨w.heap.size + 1 + 1 + 1 + 1 + 1 + 1 + 1, 0, none⟩) [xC, xB, xA].length [xC, xB, xA] := by
  refine C_of_heap k40 h.h7 _ (by decide) fun j x hx => ?_
  rcases j with _ | _ | _ | j
  · obtain rfl := Option.some.inj hx
    refine ⟨_, rfl, h.kC, fun i u hu => ?_⟩
    rcases i with _ | _ | _ | i <;> first | exact hu | (simp at hu)
  · obtain rfl := Option.some.inj hx
    refine ⟨_, rfl, h.kB, fun i u hu => ?_⟩
    rcases i with _ | _ | _ | i <;> first | exact hu | (simp at hu)
  · obtain rfl := Option.some.inj hx
    refine ⟨_, rfl, h.kA, fun i u hu => ?_⟩
    rcases i with _ | _ | _ | i <;> first | exact hu | (simp at hu)
  · simp at hx
theorem LiveMem.two {w W : World} {B : Nat} {cs : List Value} {y : S40} (h : LiveMem w W) (hB : W.heap[B]? = some (.cells (([.string ⟨#[]⟩, .string ⟨#[101, 120, 47, 97]⟩, .slice none 0 0] : List Value) ++ cs).toArray 40 (0, 0))) (hl : cs.length = 3) (hy : k40.K W y cs) : Kd.C k40 W (some ⟨B, 0, none⟩) [xA, y].length [xA, y] := by
  refine C_of_heap k40 hB _ (by simp) fun j x hx => ?_
  rcases j with _ | _ | j
  · obtain rfl := Option.some.inj hx
    refine ⟨_, rfl, h.kA, fun i u hu => ?_⟩
    rcases i with _ | _ | _ | i <;> first | exact hu | (simp at hu)
  · obtain rfl := Option.some.inj hx
    refine ⟨cs, hl, hy, fun i u hu => ?_⟩
    show (([.string ⟨#[]⟩, .string ⟨#[101, 120, 47, 97]⟩, .slice none 0 0] : List Value) ++ cs).toArray[1 * 3 + i]? = some u
    rw [List.getElem?_toArray, List.getElem?_append_right (by simp)]
    simpa using hu
  · simp at hx
end Go.Proofs.YtnfiigjignpkaaaGreatDoor

/- The law's own examples: armadalaw16.live answers true. -/
namespace Go.Proofs.YtnfiigjignpkaaaGreatDoor
open Go Go.RowKit Go.Sort Go.Proofs Go.Proofs.YtnfiigjignpkaaaGreatDoorW.PrintWords Go.Proofs.YtnfiigjignpkaaaGreatDoor.K0 Go.Proofs.YtnfiigjignpkaaaGreatDoor.R3
set_option linter.unusedVariables false
set_option linter.unusedSimpArgs false

theorem below_skip {W w' : World} {o : Obj} (hb : Below (W.alloc o).heap.size (W.alloc o) w') : Below W.heap.size W w' := below_step (below_alloc (Below.refl _ _) o) hb
theorem int_res {W w' : World} {b : Nat} {v : Value} {l : List Int} (h : Kd.R (Kd.int .i64) 3 w' b (fun _ => True) v l) : ∃ A c, v = .slice A l.length c ∧ l.length ≤ c ∧ Kd.C (Kd.int .i64) w' A l.length l := Kd.R_reads h
theorem lv1 {w W : World} (hG : GW w) (h : LiveMem w W) : Calls Tryz.prog 10 #[.slice (some ⟨w.heap.size + 1 + 1 + 1 + 1 + 1 + 1 + 1, 0, none⟩) 3 3] W fun e w' => ∃ A c, e = .returned (.tuple #[.slice A 3 c, .int .i64 0]) ∧ 3 ≤ c ∧ Kd.C (Kd.int .i64) w' A 3 [2, 1, 0] ∧ Below W.heap.size W w' := by
  refine (graph_Order.calls _ _ [xC, xB, xA] [2, 1, 0] 0 _ (h.l3) (by decide) (hG.below h.base) (by decide +kernel)).mono ?_
  rintro e w' ⟨v, rfl, hR, hb⟩
  obtain ⟨A, c, rfl, hc, hC⟩ := int_res (W := W) hR
  exact ⟨A, c, rfl, hc, hC, hb⟩
theorem lv2 {w W : World} (hG : GW w) (h : LiveMem w W) : Calls Tryz.prog 10 #[.slice (some ⟨W.heap.size, 0, none⟩) 2 2] (W.alloc (.cells #[.string ⟨#[]⟩, .string ⟨#[101, 120, 47, 97]⟩, .slice none 0 0, .string ⟨#[]⟩, .string ⟨#[101, 120, 47, 100]⟩, .slice (some ⟨w.heap.size + 1 + 1 + 1 + 1 + 1, 0, none⟩) 1 1] 40)) fun e w' => ∃ A c, e = .returned (.tuple #[.slice A 0 c, .int .i64 12]) ∧ 0 ≤ c ∧ Kd.C (Kd.int .i64) w' A 0 [] ∧ Below W.heap.size W w' := by
  refine (graph_Order.calls _ _ [xA, xD] [] 12 _ ((h.below (below_alloc (Below.refl _ _) _)).two (cs := [.string ⟨#[]⟩, .string ⟨#[101, 120, 47, 100]⟩, .slice (some ⟨w.heap.size + 1 + 1 + 1 + 1 + 1, 0, none⟩) 1 1]) (lm_new rfl) rfl (h.below (below_alloc (Below.refl _ _) _)).kD) (by decide) (hG.below (below_alloc h.base _)) (by decide +kernel)).mono ?_
  rintro e w' ⟨v, rfl, hR, hb⟩
  obtain ⟨A, c, rfl, hc, hC⟩ := int_res (W := W) hR
  exact ⟨A, c, rfl, hc, hC, below_skip hb⟩
theorem lv3 {w W : World} (hG : GW w) (h : LiveMem w W) : Calls Tryz.prog 10 #[.slice (some ⟨W.heap.size, 0, none⟩) 2 2] (W.alloc (.cells #[.string ⟨#[]⟩, .string ⟨#[101, 120, 47, 97]⟩, .slice none 0 0, .string ⟨#[]⟩, .string ⟨#[101, 120, 47, 97]⟩, .slice none 0 0] 40)) fun e w' => ∃ A c, e = .returned (.tuple #[.slice A 0 c, .int .i64 11]) ∧ 0 ≤ c ∧ Kd.C (Kd.int .i64) w' A 0 [] ∧ Below W.heap.size W w' := by
  refine (graph_Order.calls _ _ [xA, xA] [] 11 _ ((h.below (below_alloc (Below.refl _ _) _)).two (cs := [.string ⟨#[]⟩, .string ⟨#[101, 120, 47, 97]⟩, .slice none 0 0]) (lm_new rfl) rfl (h.below (below_alloc (Below.refl _ _) _)).kA) (by decide) (hG.below (below_alloc h.base _)) (by decide +kernel)).mono ?_
  rintro e w' ⟨v, rfl, hR, hb⟩
  obtain ⟨A, c, rfl, hc, hC⟩ := int_res (W := W) hR
  exact ⟨A, c, rfl, hc, hC, below_skip hb⟩
theorem sm1 {W : World} {A : Option Addr} {c : Nat} (hc : 3 ≤ c) (hC : Kd.C (Kd.int .i64) W A 3 [2, 1, 0]) : Calls Tryz.prog 14 #[.slice A 3 c, .slice (some ⟨W.heap.size, 0, none⟩) 3 3] (W.alloc (.cells #[.int .i64 2, .int .i64 1, .int .i64 0] 3)) fun e w' => e = .returned (.bool true) ∧ Below W.heap.size W w' := by
  refine (armadaref16_Same.calls 10 A c [2, 1, 0] (some ⟨W.heap.size, 0, none⟩) 3 [2, 1, 0] true _ (Kd.C_alloc hC _) hc (C_ints [2, 1, 0] (lm_new rfl) rfl (by decide)) (by decide) (by decide +kernel)).mono ?_
  rintro e w' ⟨rfl, hb⟩
  exact ⟨rfl, below_skip hb.below⟩
theorem sm2 {W : World} {A : Option Addr} {c : Nat} (hc : 1 ≤ c) (hC : Kd.C (Kd.int .i64) W A 1 [1]) : Calls Tryz.prog 14 #[.slice A 1 c, .slice (some ⟨W.heap.size, 0, none⟩) 1 1] (W.alloc (.cells #[.int .i64 1] 3)) fun e w' => e = .returned (.bool true) ∧ Below W.heap.size W w' := by
  refine (armadaref16_Same.calls 10 A c [1] (some ⟨W.heap.size, 0, none⟩) 1 [1] true _ (Kd.C_alloc hC _) hc (C_ints [1] (lm_new rfl) rfl (by decide)) (by decide) (by decide +kernel)).mono ?_
  rintro e w' ⟨rfl, hb⟩
  exact ⟨rfl, below_skip hb.below⟩
theorem sm3 {W : World} {A : Option Addr} {c : Nat} (hc : 3 ≤ c) (hC : Kd.C (Kd.int .i64) W A 3 [0, 1, 2]) : Calls Tryz.prog 14 #[.slice A 3 c, .slice (some ⟨W.heap.size, 0, none⟩) 3 3] (W.alloc (.cells #[.int .i64 0, .int .i64 1, .int .i64 2] 3)) fun e w' => e = .returned (.bool true) ∧ Below W.heap.size W w' := by
  refine (armadaref16_Same.calls 10 A c [0, 1, 2] (some ⟨W.heap.size, 0, none⟩) 3 [0, 1, 2] true _ (Kd.C_alloc hC _) hc (C_ints [0, 1, 2] (lm_new rfl) rfl (by decide)) (by decide) (by decide +kernel)).mono ?_
  rintro e w' ⟨rfl, hb⟩
  exact ⟨rfl, below_skip hb.below⟩
theorem sm4 {W : World} {A : Option Addr} {c : Nat} (hc : 1 ≤ c) (hC : Kd.C (Kd.int .i64) W A 1 [0]) : Calls Tryz.prog 14 #[.slice A 1 c, .slice (some ⟨W.heap.size, 0, none⟩) 1 1] (W.alloc (.cells #[.int .i64 0] 3)) fun e w' => e = .returned (.bool true) ∧ Below W.heap.size W w' := by
  refine (armadaref16_Same.calls 10 A c [0] (some ⟨W.heap.size, 0, none⟩) 1 [0] true _ (Kd.C_alloc hC _) hc (C_ints [0] (lm_new rfl) rfl (by decide)) (by decide) (by decide +kernel)).mono ?_
  rintro e w' ⟨rfl, hb⟩
  exact ⟨rfl, below_skip hb.below⟩
theorem lv4 {w W : World} (hG : GW w) (h : LiveMem w W) : Calls Tryz.prog 15 #[.slice (some ⟨w.heap.size + 1 + 1 + 1 + 1 + 1 + 1 + 1, 0, none⟩) 3 3, .int .i64 0] W fun e w' => ∃ A c, e = .returned (.slice A 1 c) ∧ 1 ≤ c ∧ Kd.C (Kd.int .i64) w' A 1 [1] ∧ Below W.heap.size W w' := by
  refine (graph_Edges.calls _ _ [xC, xB, xA] 0 [1] _ h.l3 (by decide) (hG.below h.base) (by decide +kernel)).mono ?_
  rintro e w' ⟨v, rfl, hR, hb⟩
  obtain ⟨A, c, rfl, hc, hC⟩ := int_res (W := W) hR
  exact ⟨A, c, rfl, hc, hC, hb⟩
theorem lv5 {w W : World} (hG : GW w) (h : LiveMem w W) : Calls Tryz.prog 19 #[.slice (some ⟨w.heap.size + 1 + 1 + 1 + 1 + 1 + 1 + 1, 0, none⟩) 3 3, .slice (some ⟨W.heap.size, 0, none⟩) 2 2] (W.alloc (.cells #[.int .i64 2, .int .i64 7] 3)) fun e w' => ∃ A c, e = .returned (.slice A 3 c) ∧ 3 ≤ c ∧ Kd.C (Kd.int .i64) w' A 3 [0, 1, 2] ∧ Below W.heap.size W w' := by
  refine (graph_Up.calls _ _ [xC, xB, xA] _ _ [2, 7] [0, 1, 2] _ (h.below (below_alloc (Below.refl _ _) _)).l3 (by decide) (C_ints [2, 7] (lm_new rfl) rfl (by decide)) (by decide) (hG.below (below_alloc h.base _)) (by decide +kernel)).mono ?_
  rintro e w' ⟨v, rfl, hR, hb⟩
  obtain ⟨A, c, rfl, hc, hC⟩ := int_res (W := W) hR
  exact ⟨A, c, rfl, hc, hC, below_skip hb⟩
theorem lv6 {w W : World} (hG : GW w) (h : LiveMem w W) : Calls Tryz.prog 19 #[.slice (some ⟨w.heap.size + 1 + 1 + 1 + 1 + 1 + 1 + 1, 0, none⟩) 3 3, .slice (some ⟨W.heap.size, 0, none⟩) 1 1] (W.alloc (.cells #[.int .i64 0] 3)) fun e w' => ∃ A c, e = .returned (.slice A 1 c) ∧ 1 ≤ c ∧ Kd.C (Kd.int .i64) w' A 1 [0] ∧ Below W.heap.size W w' := by
  refine (graph_Up.calls _ _ [xC, xB, xA] _ _ [0] [0] _ (h.below (below_alloc (Below.refl _ _) _)).l3 (by decide) (C_ints [0] (lm_new rfl) rfl (by decide)) (by decide) (hG.below (below_alloc h.base _)) (by decide +kernel)).mono ?_
  rintro e w' ⟨v, rfl, hR, hb⟩
  obtain ⟨A, c, rfl, hc, hC⟩ := int_res (W := W) hR
  exact ⟨A, c, rfl, hc, hC, below_skip hb⟩
theorem lv7 {w W : World} (hG : GW w) (h : LiveMem w W) : Calls Tryz.prog 17 #[.slice (some ⟨W.heap.size, 0, none⟩) 2 2] (W.alloc (.cells #[.string ⟨#[]⟩, .string ⟨#[101, 120, 47, 97]⟩, .slice none 0 0, .string ⟨#[]⟩, .string ⟨#[101, 120, 47, 100]⟩, .slice (some ⟨w.heap.size + 1 + 1 + 1 + 1 + 1, 0, none⟩) 1 1] 40)) fun e w' => ∃ A c, e = .returned (.slice A 1 c) ∧ 1 ≤ c ∧ Kd.C (Kd.int .i64) w' A 1 [1] ∧ Below W.heap.size W w' := by
  refine (graph_Cyclic.calls _ _ [xA, xD] [1] _ ((h.below (below_alloc (Below.refl _ _) _)).two (cs := [.string ⟨#[]⟩, .string ⟨#[101, 120, 47, 100]⟩, .slice (some ⟨w.heap.size + 1 + 1 + 1 + 1 + 1, 0, none⟩) 1 1]) (lm_new rfl) rfl (h.below (below_alloc (Below.refl _ _) _)).kD) (by decide) (hG.below (below_alloc h.base _)) (by decide +kernel)).mono ?_
  rintro e w' ⟨v, rfl, hR, hb⟩
  obtain ⟨A, c, rfl, hc, hC⟩ := int_res (W := W) hR
  exact ⟨A, c, rfl, hc, hC, below_skip hb⟩
theorem lv8 {w W : World} (hG : GW w) (h : LiveMem w W) : Calls Tryz.prog 12 #[.slice (some ⟨w.heap.size + 1 + 1 + 1 + 1 + 1 + 1 + 1, 0, none⟩) 3 3] W fun e w' => e = .returned (.int .i64 0) ∧ Below W.heap.size W w' :=
  graph_Check.calls _ _ [xC, xB, xA] 0 _ h.l3 (by decide) (hG.below h.base) (by decide +kernel)
theorem lv9 {w W : World} (hG : GW w) (h : LiveMem w W) : Calls Tryz.prog 12 #[.slice (some ⟨W.heap.size, 0, none⟩) 1 1] (W.alloc (.cells #[.string ⟨#[]⟩, .string ⟨#[]⟩, .slice none 0 0] 40)) fun e w' => e = .returned (.int .i64 6) ∧ Below W.heap.size W w' := by
  refine (graph_Check.calls _ _ [x0] 6 _ (C_of_heap k40 (cs := #[.string ⟨#[]⟩, .string ⟨#[]⟩, .slice none 0 0]) (lm_new rfl) _ (by decide) fun j x hx => ?_) (by decide) (hG.below (below_alloc h.base _)) (by decide +kernel)).mono ?_
  · rcases j with _ | j
    · obtain rfl := Option.some.inj hx
      refine ⟨_, rfl, k40_mk _ x0 (A2 := none) (c2 := 0) (by decide) (Kd.C_nil _ _), fun i u hu => ?_⟩
      rcases i with _ | _ | _ | i <;> first | exact hu | (simp at hu)
    · simp at hx
  · rintro e w' ⟨rfl, hb⟩
    exact ⟨rfl, below_skip hb⟩
theorem LiveMem.ccA {w W : World} (h : LiveMem w W) : W.cell? ⟨w.heap.size, 0, none⟩ = some (.string ⟨#[]⟩) ∧ W.cell? ⟨w.heap.size, 1, none⟩ = some (.string ⟨#[101, 120, 47, 97]⟩) ∧ W.cell? ⟨w.heap.size, 2, none⟩ = some (.slice none 0 0) :=
  ⟨cell_of_heap h.h0 0, cell_of_heap h.h0 1, cell_of_heap h.h0 2⟩
theorem LiveMem.ccD {w W : World} (h : LiveMem w W) : W.cell? ⟨w.heap.size + 1 + 1 + 1 + 1 + 1 + 1, 0, none⟩ = some (.string ⟨#[]⟩) ∧ W.cell? ⟨w.heap.size + 1 + 1 + 1 + 1 + 1 + 1, 1, none⟩ = some (.string ⟨#[101, 120, 47, 100]⟩) ∧ W.cell? ⟨w.heap.size + 1 + 1 + 1 + 1 + 1 + 1, 2, none⟩ = some (.slice (some ⟨w.heap.size + 1 + 1 + 1 + 1 + 1, 0, none⟩) 1 1) :=
  ⟨cell_of_heap h.h6 0, cell_of_heap h.h6 1, cell_of_heap h.h6 2⟩

end Go.Proofs.YtnfiigjignpkaaaGreatDoor

/- The law's own examples: armadalaw16.live answers true. -/
namespace Go.Proofs.YtnfiigjignpkaaaGreatDoor
open Go Go.RowKit Go.Sort Go.Proofs Go.Proofs.YtnfiigjignpkaaaGreatDoorW.PrintWords Go.Proofs.YtnfiigjignpkaaaGreatDoor.K0 Go.Proofs.YtnfiigjignpkaaaGreatDoor.R3
set_option linter.unusedVariables false
set_option linter.unusedSimpArgs false

set_option maxRecDepth 100000 in
set_option maxHeartbeats 8000000 in
theorem live_walk (w : World) (hG : GW w) : Calls Tryz.prog 9 #[] w fun e w' => e = .returned (.bool true) ∧ Below w.heap.size w w' := by
  have HG := Aside0.mk hG
  clear hG
  go_enter Tryz.func9, Tryz.ntmps9
  go_wp2_with (first
    | (go_at_call 10; with_reducible refine (lv1 HG.out (live_mem w)).mono ?_; rintro e w1 ⟨A1, c1, rfl, hc1, hC1, hb⟩; have HC1 := Aside0.mk hC1; have HK1 := Aside0.mk hc1; have HL1 := Aside0.mk ((live_mem w).below hb); clear hb hC1 hc1; obtain ⟨a10, a11, a12⟩ := HL1.out.ccA; obtain ⟨d10, d11, d12⟩ := HL1.out.ccD)
    | (go_at_call 10; with_reducible refine (lv2 HG.out HL1.out).mono ?_; rintro e w2 ⟨A2, c2, rfl, hc2, hC2, hb⟩; have HL2 := Aside0.mk (HL1.out.below hb); have HC1b := Aside0.mk (Kd.C_below HC1.out hb); clear hb hC2 hc2 HC1 a10 a11 a12 d10 d11 d12; obtain ⟨a20, a21, a22⟩ := HL2.out.ccA; obtain ⟨d20, d21, d22⟩ := HL2.out.ccD)
    | (go_at_call 10; with_reducible refine (lv3 HG.out HL2.out).mono ?_; rintro e w3 ⟨A3, c3, rfl, hc3, hC3, hb⟩; have HL3 := Aside0.mk (HL2.out.below hb); have HC1c := Aside0.mk (Kd.C_below HC1b.out hb); clear hb hC3 hc3 HC1b a20 a21 a22 d20 d21 d22)
    | (go_at_call 14; with_reducible refine (sm1 HK1.out HC1c.out).mono ?_; rintro e w4 ⟨rfl, hb⟩; have HL4 := Aside0.mk (HL3.out.below hb); clear hb)
    | (go_at_call 15; with_reducible refine (lv4 HG.out HL4.out).mono ?_; rintro e w5 ⟨A5, c5, rfl, hc5, hC5, hb⟩; have HC5 := Aside0.mk hC5; have HK5 := Aside0.mk hc5; have HL5 := Aside0.mk (HL4.out.below hb); clear hb hC5 hc5)
    | (go_at_call 14; with_reducible refine (sm2 HK5.out HC5.out).mono ?_; rintro e w6 ⟨rfl, hb⟩; have HL6 := Aside0.mk (HL5.out.below hb); clear hb)
    | (go_at_call 19; with_reducible refine (lv5 HG.out HL6.out).mono ?_; rintro e w7 ⟨A7, c7, rfl, hc7, hC7, hb⟩; have HC7 := Aside0.mk hC7; have HK7 := Aside0.mk hc7; have HL7 := Aside0.mk (HL6.out.below hb); clear hb hC7 hc7)
    | (go_at_call 14; with_reducible refine (sm3 HK7.out HC7.out).mono ?_; rintro e w8 ⟨rfl, hb⟩; have HL8 := Aside0.mk (HL7.out.below hb); clear hb)
    | (go_at_call 19; with_reducible refine (lv6 HG.out HL8.out).mono ?_; rintro e w9 ⟨A9, c9, rfl, hc9, hC9, hb⟩; have HC9 := Aside0.mk hC9; have HK9 := Aside0.mk hc9; have HL9 := Aside0.mk (HL8.out.below hb); clear hb hC9 hc9)
    | (go_at_call 14; with_reducible refine (sm4 HK9.out HC9.out).mono ?_; rintro e w10 ⟨rfl, hb⟩; have HL10 := Aside0.mk (HL9.out.below hb); clear hb; obtain ⟨a100, a101, a102⟩ := HL10.out.ccA; obtain ⟨d100, d101, d102⟩ := HL10.out.ccD)
    | (go_at_call 17; with_reducible refine (lv7 HG.out HL10.out).mono ?_; rintro e w11 ⟨A11, c11, rfl, hc11, hC11, hb⟩; have HC11 := Aside0.mk hC11; have HK11 := Aside0.mk hc11; have HL11 := Aside0.mk (HL10.out.below hb); clear hb hC11 hc11)
    | (go_at_call 14; with_reducible refine (sm2 HK11.out HC11.out).mono ?_; rintro e w12 ⟨rfl, hb⟩; have HL12 := Aside0.mk (HL11.out.below hb); clear hb)
    | (go_at_call 12; with_reducible refine (lv8 HG.out HL12.out).mono ?_; rintro e w13 ⟨rfl, hb⟩; have HL13 := Aside0.mk (HL12.out.below hb); clear hb)
    | (go_at_call 12; with_reducible refine (lv9 HG.out HL13.out).mono ?_; rintro e w14 ⟨rfl, hb⟩; have HL14 := Aside0.mk (HL13.out.below hb); clear hb))
  go_ret
  exact ⟨rfl, HL14.out.base⟩
def armadalaw16_live.f : Option Bool := some true
theorem armadalaw16_live.calls (r : Bool) (w : World) (hG : GW w) (h : armadalaw16_live.f = some r) : Calls Tryz.prog 9 #[] w fun e w' => e = .returned (.bool r) ∧ Below w.heap.size w w' := by
  obtain rfl := Option.some.inj h
  exact live_walk w hG
end Go.Proofs.YtnfiigjignpkaaaGreatDoor
