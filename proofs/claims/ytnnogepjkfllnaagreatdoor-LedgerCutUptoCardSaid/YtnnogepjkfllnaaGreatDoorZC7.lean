/- The texts Upto, R1x0 in one file, without what this claim does not use (put together by prune.py). -/
import Derived.Test.YtnnogepjkfllnaaGreatDoorZC6
import Derived.Deep.DeepHandedRow
import Derived.JoinedCond
section
namespace Go.Proofs.YtnnogepjkfllnaaGreatDoor
open Go Go.ChangeShapes Go.WideShapes Go.ChangeAt Go.RowKit Go.Joins Go.Deep Go.Proofs.YtnnogepjkfllnaaGreatDoorW.PrintWords Go.Proofs.YtnnogepjkfllnaaGreatDoor.K0
set_option linter.unusedVariables false
section
variable {H : Type} {enc : TypeId × Value → H}
theorem lifted_upto {C : Checked} {os : Os} {f : FuncId} {fn : Func} {s : ChangeSpec} {F : Stop.Interp} {conds : List PathCond} {laid : List (String × DataW Unit)} {tb : TypeId} (hl : laidOutB C.prog = true) (hv : s.vars = [])
    (own : ownKnob C.prog.godebug = none) (started : os.Started) (noInit : C.prog.inits.idxOf? f = none) (hfn : C.prog.funcs[f]? = some fn)
    (hr : (fn.params.toList.all fun t => C.prog.readableRec t && decide (t < C.prog.types.size)) = true)
    (hres : fn.resultTypes = #[tb]) (hbool : C.prog.underlying tb = some .bool)
    (hspec : ∀ ds : List (DataW H), ds.length = fn.params.size → s.fn H (ds ++ []) = { results := [.lit (.bool true)], args := ds })
    (witness : ∃ (w : World) (tape : Tape) (i : Input), w.os = os ∧ (w.forCall tape i).Shaped C.prog ∧ i.vars = [] ∧ Input.okWide C.prog (w.forCall tape i) .any w.heap.size f i ∧
      (Rows.OpenSpec.upto s).preRow enc C.prog fn conds false laid (w.forCall tape i).memory i.args ∧ ({} : Assume).holds C.prog (lone (Frame.enter C.prog f i.args .normal) [] (w.forCall tape i)))
    (law : ∀ (W : World) (base : Nat) (args : Array Value) (ds : List (DataW H)) (ps : List MemPlace),
      (∀ (j : Nat) t v, fn.params[j]? = some t → args[j]? = some v → Value.okWide C.prog W .any base t v) →
      DataW.TrodAll enc C.prog W 0 (fun _ => true) true fn.params.toList args.toList ds ps →
      Rows.uptoBulkAll ds ≤ 1048576 → W.ShapedOpen C.prog → laidMetH C.prog laid W →
      Calls C.prog f args W fun e W' => e = .returned (.bool true) ∧ Below W.heap.size W W') :
    ReturnsInHanded {} C os f .any ((Rows.OpenSpec.upto s).preRow enc C.prog fn conds false laid) (((Rows.OpenSpec.upto s).at F).post enc C.prog fn false true false false) := by
  refine returnsInHanded_of_row own started noInit hfn witness ?_
  intro W base args ds gs before hval hW _ hk hz hL hsh _
  have hgs : gs = [] := by
    obtain ⟨_, _, _, hV, _⟩ := hW
    rw [show (Rows.OpenSpec.upto s).vars = [] from hv] at hV
    cases gs with
    | nil => rfl
    | cons _ _ => exact hV.elim
  subst hgs
  obtain ⟨p, q, hA, _⟩ := id hW
  have hlen : ∀ {ts : List TypeId} {vs : List Value} {ds : List (DataW H)} {ps : List MemPlace}, DataW.TrodAll enc C.prog W 0 (fun _ => true) true ts vs ds ps → ds.length = ts.length := by
    intro ts
    induction ts with
    | nil => intro vs ds ps h; cases vs <;> cases ds <;> first | rfl | exact h.elim
    | cons t ts ih =>
      intro vs ds ps h
      cases vs <;> cases ds <;> first | exact h.elim | skip
      obtain ⟨_, _, _, h2, _⟩ := h
      simp [ih h2]
  have hb : Rows.uptoBulkAll ds ≤ 1048576 := by
    have h := hk _ rfl
    rw [List.append_nil] at h
    exact of_decide_eq_true h
  refine (law W base args ds p hval hA hb hsh hL).mono fun e W' ⟨he, hb2⟩ => ?_
  exact ⟨.bool true, he, post_true hl hv hW hr hres hbool (hspec ds (by rw [hlen hA]; simp)) hb2⟩
end
section
variable {H : Type} (enc : TypeId × Value → H) (P : Program) (w : World) (base : Nat) (spare : Nat → Bool) (held : Bool)
/-- Whatever reads as a datum of a type reads by a kind, and is of no less bulk. -/
def OpensB {α : Type} (t : TypeId) (d : Kd α) (B : α → Nat) : Prop := ∀ (fuel : Nat) (cs : List Value) (x : DataW H × List MemPlace), DataW.trod enc P w base spare held fuel t cs = some x → ∃ a : α, d.K w a cs ∧ B a ≤ Rows.uptoBulk x.1
variable {enc P w base spare held}
theorem opensB_of {α : Type} {t : TypeId} {d : Kd α} (h : Opens enc P w base spare held t d) : OpensB enc P w base spare held t d (fun _ => 0) := by
  intro fuel cs x hx
  obtain ⟨a, ha⟩ := h fuel cs x hx
  exact ⟨a, ha, Nat.zero_le _⟩
theorem opensB_str {t : TypeId} (ht : P.underlying t = some .string) : OpensB enc P w base spare held t Kd.string ByteArray.size := by
  intro fuel cs x h
  obtain ⟨z, e, rfl, _⟩ := DataW.trod_string ht h
  refine ⟨z, e, ?_⟩
  simp only [Rows.uptoBulk]
  rw [Lib.size_eq]
  exact Nat.le_succ _
theorem opensB_iso {α β : Type} {t : TypeId} {d : Kd α} {B : α → Nat} (f : β → α) (g : α → β) (hg : ∀ a, f (g a) = a) (h : OpensB enc P w base spare held t d B) : OpensB enc P w base spare held t (Kd.iso d f) (fun b => B (f b)) := by
  intro fuel cs x hx
  obtain ⟨a, ha, hb⟩ := h fuel cs x hx
  exact ⟨g a, by show d.K w (f (g a)) cs; rw [hg]; exact ha, Nat.le_trans (Nat.le_of_eq (congrArg B (hg a))) hb⟩
theorem opensB_three {α β γ : Type} {t : TypeId} {f0 f1 f2 : Field} {d0 : Kd α} {d1 : Kd β} {d2 : Kd γ} {B0 : α → Nat} {B1 : β → Nat} {B2 : γ → Nat} (ht : P.underlying t = some (.struct #[f0, f1, f2])) (hC : P.cellsOf t = d0.sz + (d1.sz + d2.sz))
    (ho : f0.offset = 0 ∧ f1.offset = d0.sz ∧ f2.offset = d0.sz + d1.sz) (hk : P.cellsOf f0.type = d0.sz ∧ P.cellsOf f1.type = d1.sz ∧ P.cellsOf f2.type = d2.sz)
    (h0 : OpensB enc P w base spare held f0.type d0 B0) (h1 : OpensB enc P w base spare held f1.type d1 B1) (h2 : OpensB enc P w base spare held f2.type d2 B2) :
    OpensB enc P w base spare held t (Kd.pair d0 (Kd.pair d1 d2)) (fun a => B0 a.1 + (B1 a.2.1 + B2 a.2.2) + 1) := by
  intro fuel cs x h
  obtain ⟨xs, n, _, rfl, hl, hxl, hg⟩ := DataW.trod_struct ht h
  have hs : xs.length = 3 := hxl
  have e0 := hg 0 f0 rfl
  have e1 := hg 1 f1 rfl
  have e2 := hg 2 f2 rfl
  match xs, hs with
  | [y0, y1, y2], _ =>
    rw [hC] at hl
    rw [ho.1, hk.1, List.drop_zero] at e0
    rw [ho.2.1, hk.2.1] at e1
    rw [ho.2.2, hk.2.2, ← List.drop_drop, List.take_of_length_le (by rw [List.length_drop, List.length_drop]; omega)] at e2
    obtain ⟨a, ha, ba⟩ := h0 _ _ _ e0
    obtain ⟨b, hb, bb⟩ := h1 _ _ _ e1
    obtain ⟨c, hc, bc⟩ := h2 _ _ _ e2
    refine ⟨(a, b, c), ⟨cs.take d0.sz, cs.drop d0.sz, (List.take_append_drop _ _).symm, ha, (cs.drop d0.sz).take d1.sz, (cs.drop d0.sz).drop d1.sz, (List.take_append_drop _ _).symm, hb, hc⟩, ?_⟩
    simp only [List.map_cons, List.map_nil, Rows.uptoBulk, Rows.uptoBulkAll]
    omega
theorem opensB_sum {α : Type} {B : α → Nat} {f : Nat → α} {D : Nat → DataW H} : ∀ (L : List Nat), (∀ i ∈ L, B (f i) ≤ Rows.uptoBulk (D i)) → ((L.map f).map B).sum ≤ Rows.uptoBulkAll (L.map D) := by
  intro L
  induction L with
  | nil => intro _; simp
  | cons i L ih =>
    intro h
    have h1 := h i List.mem_cons_self
    have h2 := ih fun j hj => h j (List.mem_cons_of_mem _ hj)
    simp only [List.map_cons, List.sum_cons, Rows.uptoBulkAll]
    omega
/-- A slice that was handed in, and its elements' bulk. -/
theorem arg_sliceB {α : Type} [Inhabited α] {t e : TypeId} {d : Kd α} {B : α → Nat} {r : Reach} {b0 : Nat} {v : Value} {x : DataW H} {p : List MemPlace} (ht : P.underlying t = some (.slice e)) (hc : P.cellsOf e = d.sz) (he : OpensB enc P w base spare held e d B)
    (hv : Value.okWide P w r b0 t v) (h : DataW.Trod enc P w base spare held t v x p) : ∃ (A : Option Addr) (c : Nat) (xs : List α), v = .slice A xs.length c ∧ xs.length ≤ c ∧ Kd.C d w A xs.length xs ∧ (xs.map B).sum ≤ Rows.uptoBulk x := by
  obtain ⟨a, len, cap, rfl⟩ := okWide_slice ht hv
  obtain ⟨fuel, hf⟩ := h
  rcases open_slice ht hf with ⟨hcs, hx⟩ | ⟨a, len, cap, m, n, D, Pl, hcs, _, hl, hm, hmm, hx0, hx⟩
  · cases hcs
    exact ⟨none, 0, [], rfl, Nat.le_refl _, Kd.C_nil _ _, Nat.zero_le _⟩
  · cases hcs
    have hle : len ≤ m := by rw [hmm]; split <;> omega
    obtain ⟨f, hf2⟩ := choose_lt (α := α) (n := len) (p := fun i y => (∃ c : List Value, c.length = d.sz ∧ d.K w y c ∧ ∀ (j : Nat) (u : Value), c[j]? = some u → w.cell? (a.add (i * d.sz + j)) = some u) ∧ B y ≤ Rows.uptoBulk (D i)) (fun i hi => by
      obtain ⟨cs', h1, h2⟩ := hx i (by omega)
      obtain ⟨y, hy, hyb⟩ := he n cs' _ h2
      obtain ⟨_, hlen, hcell⟩ := World.cells?_some h1
      rw [hc] at hlen hcell
      refine ⟨y, ⟨cs', hlen, hy, fun j u hu => ?_⟩, hyb⟩
      have hj := (List.getElem?_eq_some_iff.1 hu).1
      have := hcell j (by omega)
      rw [Deep.add_add] at this
      rw [this, hu])
    refine ⟨some a, cap, (List.range len).map f, by simp, by simpa using hl, ?_, ?_⟩
    · rw [List.length_map, List.length_range]
      refine ⟨by simp, by have : maxLen = 9223372036854775807 := rfl
                          omega, fun _ => ⟨a, rfl, fun j p hp => ?_⟩⟩
      have hj : j < len := by have := (List.getElem?_eq_some_iff.1 hp).1; simpa using this
      rw [List.getElem?_map, List.getElem?_range hj] at hp
      obtain rfl : f j = p := by simpa using hp
      exact (hf2 j hj).1
    · obtain ⟨rfl, _⟩ := Prod.mk.inj hx0
      have h1 := opensB_sum (B := B) (f := f) (D := D) (List.range len) fun i hi => (hf2 i (List.mem_range.1 hi)).2
      simp only [Rows.uptoBulk]
      omega
end
/-- What a tag is of at least. -/
def tagB (t : S32) : Nat := t.f0.size + (0 + t.f2.size) + 1
set_option maxRecDepth 100000 in
theorem opensB_tag {H : Type} {enc : TypeId × Value → H} {w : World} {base : Nat} {spare : Nat → Bool} {held : Bool} : OpensB enc Tryz.prog w base spare held 32 k32 tagB :=
  opensB_iso _ (fun a => ⟨a.1, a.2.1, a.2.2⟩) (fun _ => rfl) (opensB_three (d0 := Kd.string) (d1 := k30) (d2 := Kd.string) Tryz.underlying32 (by kernel_rfl) ⟨rfl, rfl, rfl⟩ ⟨by kernel_rfl, by kernel_rfl, by kernel_rfl⟩
    (opensB_str Tryz.underlying9) (opensB_of opens_ver) (opensB_str Tryz.underlying9))
set_option maxRecDepth 100000 in
/-- Tags that were handed in, and their bulk. -/
theorem arg_tagsB {H : Type} {enc : TypeId × Value → H} {w : World} {base : Nat} {spare : Nat → Bool} {held : Bool} {r : Reach} {b0 : Nat} {v : Value} {x : DataW H} {p : List MemPlace} (hv : Value.okWide Tryz.prog w r b0 23 v) (h : DataW.Trod enc Tryz.prog w base spare held 23 v x p) :
    ∃ (A : Option Addr) (c : Nat) (xs : List S32), v = .slice A xs.length c ∧ xs.length ≤ c ∧ Kd.C k32 w A xs.length xs ∧ (xs.map tagB).sum ≤ Rows.uptoBulk x := arg_sliceB Tryz.underlying23 (by kernel_rfl) opensB_tag hv h
end Go.Proofs.YtnnogepjkfllnaaGreatDoor
end

section
namespace Go.Proofs.YtnnogepjkfllnaaGreatDoor.R1
open Go.RowKit Go.Proofs.YtnnogepjkfllnaaGreatDoor Go.Proofs.YtnnogepjkfllnaaGreatDoor.K0 Go.Proofs.YtnnogepjkfllnaaGreatDoorW.PrintWords Go.Proofs.YtnnogepjkfllnaaGreatDoorW.PrintLast Go.Proofs.YtnnogepjkfllnaaGreatDoorW.PrintMore
attribute [local go_sem] max2_int min2_int max_two min_two max_three min_three max_four min_four
set_option linter.unusedVariables false
set_option linter.unusedSimpArgs false
end Go.Proofs.YtnnogepjkfllnaaGreatDoor.R1
end
