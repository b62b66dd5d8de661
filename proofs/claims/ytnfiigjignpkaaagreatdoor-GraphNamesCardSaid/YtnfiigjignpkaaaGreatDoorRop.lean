/- The rows of this seat: a law that answers true and leaves what it was handed alone. -/
import Derived.Test.YtnfiigjignpkaaaGreatDoorGw
import Derived.Test.YtnfiigjignpkaaaGreatDoorTie
import Derived.Test.YtnfiigjignpkaaaGreatDoorCards
import Derived.ProofKit
import Derived.OpenShut
import Derived.LaidMore
import Derived.Lay
import Derived.SevenTiedAt
import Derived.Stop.Joined
import Derived.Stop.LaidErr
import Derived.Carry
import Derived.Shelf.Vars
import Derived.Handed
import Derived.JoinedOf
import Derived.Deep.Slices
import Derived.ChangeArms
import Derived.WideShapes
namespace Go.Proofs.YtnfiigjignpkaaaGreatDoor
open Go Go.ChangeShapes Go.WideShapes Go.ChangeAt Go.RowKit Go.Joins Go.Deep Go.Proofs.YtnfiigjignpkaaaGreatDoorW.PrintWords
set_option linter.unusedVariables false

theorem own : ownKnob Tryz.prog.godebug = none := by kernel_rfl
theorem laidOut : laidOutB Tryz.prog = true := by kernel_rfl

section
variable {H : Type} {enc : TypeId × Value → H} {P : Program}
theorem trodAll_carry (hl : laidOutB P = true) {W W' : World} (hb : Below W.heap.size W W') : ∀ {ts : List TypeId} {vs : List Value} {ds : List (DataW H)} {ps : List MemPlace},
    (ts.all fun t => P.readableRec t && decide (t < P.types.size)) = true → DataW.TrodAll enc P W 0 (fun _ => true) true ts vs ds ps → ∀ sp : Nat → Bool, (∀ p ∈ ps, sp p.block = true) → DataW.TrodAll enc P W' 0 sp true ts vs ds ps
  | [], [], [], _, _, h, _, _ => h
  | [], [], _ :: _, _, _, h, _, _ => h.elim
  | [], _ :: _, _, _, _, h, _, _ => h.elim
  | _ :: _, [], _, _, _, h, _, _ => h.elim
  | _ :: _, _ :: _, [], _, _, h, _, _ => h.elim
  | t :: ts, v :: vs, d :: ds, ps, hr, h, sp, hs => by
    have hlt := h.lt
    obtain ⟨p, q, h1, h2, rfl⟩ := h
    simp only [List.all_cons, Bool.and_eq_true, decide_eq_true_eq] at hr
    exact ⟨p, q, WideElems.Trod_stays hl hr.1.1 hr.1.2 h1 (fun x hx => hb.same (hlt x (by simp [hx]))) (fun x hx => hs x (by simp [hx])),
      trodAll_carry hl hb (by simpa using hr.2) h2 sp (fun x hx => hs x (by simp [hx])), rfl⟩

theorem post_true {f : Func} {s : ChangeSpec} {W W' : World} {args : Array Value} {ds : List (DataW H)} {before : List MemPlace} {tb : TypeId} (hl : laidOutB P = true) (hv : s.vars = [])
    (hW : DataW.Whole enc P f.params.toList s.vars false W args.toList ds [] before) (hr : (f.params.toList.all fun t => P.readableRec t && decide (t < P.types.size)) = true)
    (hres : f.resultTypes = #[tb]) (hbool : P.underlying tb = some .bool) (hfn : s.fn H (ds ++ []) = { results := [.lit (.bool true)], args := ds }) (hb : Below W.heap.size W W') :
    s.post enc P f false true false false W args (.bool true) W' := by
  have hlt := hW.lt
  obtain ⟨p, q, hA, hV, hpq, hz, hn⟩ := hW
  have hq : q = [] := by rw [hv] at hV; exact hV
  subst hq
  rw [List.append_nil] at hpq
  subst hpq
  refine ⟨ds, [], before, [], before, [], ⟨before, [], hA, hV, (List.append_nil _).symm, hz, hn⟩, ?_, ?_, ?_, hb.frame _, fun h => by cases h⟩
  · rw [hfn, hres]
    exact trodAll_mk1 (shut_bool hbool _)
  · rw [hfn]
    exact trodAll_carry hl hb hr hA _ (fun x hx => by simpa using hlt x hx)
  · rw [hfn, hv]
    exact rfl

theorem lifted_of {C : Checked} {os : Os} {f : FuncId} {fn : Func} {s : ChangeSpec} {conds : List PathCond} {laid : List (String × DataW Unit)} {tb : TypeId} (hl : laidOutB C.prog = true) (hv : s.vars = [])
    (own : ownKnob C.prog.godebug = none) (started : os.Started) (noInit : C.prog.inits.idxOf? f = none) (hfn : C.prog.funcs[f]? = some fn)
    (hr : (fn.params.toList.all fun t => C.prog.readableRec t && decide (t < C.prog.types.size)) = true)
    (hres : fn.resultTypes = #[tb]) (hbool : C.prog.underlying tb = some .bool)
    (hspec : ∀ ds : List (DataW H), ds.length = fn.params.size → s.fn H (ds ++ []) = { results := [.lit (.bool true)], args := ds })
    (witness : ∃ (w : World) (tape : Tape) (i : Input), w.os = os ∧ (w.forCall tape i).Shaped C.prog ∧ i.vars = [] ∧ Input.okWide C.prog (w.forCall tape i) .any w.heap.size f i ∧
      ((s.pre enc C.prog fn conds false (w.forCall tape i).memory i.args ∧ laidMetH C.prog laid (w.forCall tape i).memory) ∧ sizedMet enc C.prog fn (OpenSpec.ofChange s) false (w.forCall tape i).memory i.args) ∧
      ({} : Assume).holds C.prog (lone (Frame.enter C.prog f i.args .normal) [] (w.forCall tape i)))
    (law : ∀ (W : World) (base : Nat) (args : Array Value) (ds : List (DataW H)) (ps : List MemPlace),
      (∀ (j : Nat) t v, fn.params[j]? = some t → args[j]? = some v → Value.okWide C.prog W .any base t v) →
      DataW.TrodAll enc C.prog W 0 (fun _ => true) true fn.params.toList args.toList ds ps →
      (DataW.weightsEach C.prog fn.params.toList ds).all (· ≤ reachBytes) = true →
      W.ShapedOpen C.prog → laidMetH C.prog laid W →
      Calls C.prog f args W fun e W' => e = .returned (.bool true) ∧ Below W.heap.size W W') :
    ReturnsInHanded {} C os f .any (fun w args => (s.pre enc C.prog fn conds false w args ∧ laidMetH C.prog laid w) ∧ sizedMet enc C.prog fn (OpenSpec.ofChange s) false w args) (s.post enc C.prog fn false true false false) := by
  refine returnsInHanded_of_calls own started noInit witness ?_
  intro w tape i _ hsh _ hok hpre hholds
  obtain ⟨_, _, _, fn', hfn', _, _, _, _, hval⟩ := hok
  have e : fn' = fn := Option.some.inj (hfn'.symm.trans hfn)
  subst e
  obtain ⟨⟨⟨ds, gs, before, hw, hc⟩, hx⟩, hz⟩ := hpre
  have hgs : gs = [] := by
    obtain ⟨_, _, _, hV, _⟩ := hw
    rw [hv] at hV
    cases gs with
    | nil => rfl
    | cons _ _ => exact hV.elim
  subst hgs
  have hw' := DataW.Whole.of_heap (w' := w.forCall tape i) (by rfl) hw
  have hz' := hz.weights hw
  obtain ⟨p, q, hA, _⟩ := hw'
  have hlen : ∀ {ts : List TypeId} {vs : List Value} {ds : List (DataW H)} {ps : List MemPlace}, DataW.TrodAll enc C.prog (w.forCall tape i) 0 (fun _ => true) true ts vs ds ps → ds.length = ts.length := by
    intro ts
    induction ts with
    | nil => intro vs ds ps h; cases vs <;> cases ds <;> first | rfl | exact h.elim
    | cons t ts ih =>
      intro vs ds ps h
      cases vs <;> cases ds <;> first | exact h.elim | skip
      obtain ⟨_, _, _, h2, _⟩ := h
      simp [ih h2]
  have hz2 : (DataW.weightsEach C.prog fn'.params.toList ds).all (· ≤ reachBytes) = true := by
    have e1 : (OpenSpec.ofChange s).bare.plain.varTypes C.prog = [] := by
      show s.plain.varTypes C.prog = []
      unfold DataSpec.varTypes ChangeSpec.plain
      simp [hv]
    rw [e1, List.append_nil, List.append_nil] at hz'
    exact hz'
  refine (law (w.forCall tape i) w.heap.size i.args ds p hval hA hz2 hsh (hx.of_heap (by rfl))).mono fun e W' ⟨he, hb⟩ => ?_
  subst he
  refine ChangeSpec.post_blind (post_true hl hv (DataW.Whole.of_heap (w' := w.forCall tape i) (by rfl) hw) hr hres hbool (hspec ds ?_) hb)
  rw [hlen hA]; simp
end

theorem laid_mem {P : Program} {W : World} {x : String × DataW Unit} : ∀ {l : List (String × DataW Unit)}, laidMet P l W → x ∈ l → ∃ r, laidMet P (x :: r) W
  | [], _, h => by cases h
  | y :: l, hl, h => by
    rcases List.mem_cons.1 h with rfl | h'
    · exact ⟨l, hl⟩
    · exact laid_mem hl.tail h'
theorem iface_var {P : Program} {W : World} {n nm : String} {d : DataW Unit} {r : List (String × DataW Unit)} {g : Nat} {ti : TypeId} {ms : Array (String × TypeId)} (h : laidMet P ((n, .iface nm d) :: r) W)
    (hg : P.globalNamed n = some g) (ht : (P.globals[g]?).map (·.type) = some ti) (hi : P.underlying ti = some (.interface ms)) : ∃ tp p, W.var? P n = some #[.iface tp p] := by
  obtain ⟨ps, ⟨g0, t0, cs0, f0, p0, q0, hg0, ht0, hv0, hd0, _, _⟩, _, _⟩ := h
  obtain rfl := Option.some.inj (hg.symm.trans hg0)
  obtain rfl := Option.some.inj (ht.symm.trans ht0)
  obtain ⟨l0⟩ := cs0
  cases f0 with
  | zero => cases hd0
  | succ f0 =>
    unfold DataW.trod at hd0
    rw [hi] at hd0
    split at hd0 <;> first
      | (rename_i h1 h2; cases h1; done)
      | skip
    all_goals first
      | (cases hd0; done)
      | (rename_i u v h1 h2; simp only at h2; subst h2; exact ⟨u, v, hv0⟩)
      | skip
    all_goals (rename_i h1; cases h1)

section
variable {H : Type} {enc : TypeId × Value → H} {P : Program} {w : World} {base : Nat} {spare : Nat → Bool} {held : Bool}
/-- A struct by value whose fields are one cell each: cell by cell. -/
theorem cells_open {r : Reach} {b0 : Nat} {t : TypeId} {fs : Array Field} {v : Value} {d : DataW H} {p : List MemPlace} (hs : P.underlying t = some (.struct fs)) (hone : oneCellFields P fs = true) (hC : P.cellsOf t = fs.size)
    (hv : Value.okWide P w r b0 t v) (h : DataW.Trod enc P w base spare held t v d p) :
    ∃ (cs : List Value) (ys : List (DataW H × List MemPlace)) (n : Nat), v = .agg cs.toArray ∧ cs.length = fs.size ∧ d = .agg (ys.map (·.1)) ∧ ys.length = fs.size ∧
      ∀ (j : Nat) (f : Field), fs[j]? = some f → ∃ c y, cs[j]? = some c ∧ ys[j]? = some y ∧ DataW.trod enc P w base spare held n f.type [c] = some y := by
  obtain ⟨cs, rfl, hsz⟩ := okWide_struct hs hv
  obtain ⟨fuel, hf⟩ := h
  obtain ⟨ys, n, _, hx, _, hlen, hg⟩ := DataW.trod_struct hs hf
  simp only [Prod.mk.injEq] at hx
  refine ⟨cs.toList, ys, n, rfl, by simpa using hsz.trans hC, hx.1, by simpa using hlen, fun j f hj => ?_⟩
  obtain ⟨ho, hk⟩ := hone_of hone j f hj
  have hj2 : j < fs.size := (Array.getElem?_eq_some_iff.1 hj).1
  have hcl : cs.toList.length = fs.size := by simpa using hsz.trans hC
  have hg2 := hg j f hj
  have e : ((Value.agg cs).cells.toList.drop f.offset).take (P.cellsOf f.type) = [cs.toList[j]'(by omega)] := by
    rw [ho, hk]
    show (cs.toList.drop j).take 1 = _
    rw [List.drop_eq_getElem_cons (by omega)]
    rfl
  rw [e] at hg2
  have hyl : ys.length = fs.size := by simpa using hlen
  exact ⟨_, _, List.getElem?_eq_getElem (by omega), List.getElem?_eq_getElem (by omega), hg2.trans (List.getElem?_eq_getElem (by omega))⟩
theorem of_int {n : Nat} {t : TypeId} {k : IntKind} {c : Value} {y : DataW H × List MemPlace} (ht : P.underlying t = some (.int k)) (h : DataW.trod enc P w base spare held n t [c] = some y) : ∃ z, c = .int k z := by
  obtain ⟨z, e, _⟩ := DataW.trod_int ht h
  exact ⟨z, (List.cons.inj e).1⟩
theorem of_str {n : Nat} {t : TypeId} {c : Value} {y : DataW H × List MemPlace} (ht : P.underlying t = some .string) (h : DataW.trod enc P w base spare held n t [c] = some y) : ∃ z, c = .string z := by
  obtain ⟨z, e, _⟩ := DataW.trod_string ht h
  exact ⟨z, (List.cons.inj e).1⟩
/-- A version: three numbers, two strings. -/
theorem ver_open {r : Reach} {b0 : Nat} {t : TypeId} {f0 f1 f2 f3 f4 : Field} {v : Value} {d : DataW H} {p : List MemPlace} (hs : P.underlying t = some (.struct #[f0, f1, f2, f3, f4])) (hone : oneCellFields P #[f0, f1, f2, f3, f4] = true) (hC : P.cellsOf t = 5)
    (hi : P.underlying f0.type = some (.int .i64) ∧ P.underlying f1.type = some (.int .i64) ∧ P.underlying f2.type = some (.int .i64)) (hp : P.underlying f3.type = some .string ∧ P.underlying f4.type = some .string)
    (hv : Value.okWide P w r b0 t v) (h : DataW.Trod enc P w base spare held t v d p) : ∃ (a b c : Int) (x y : ByteArray), v = .agg #[.int .i64 a, .int .i64 b, .int .i64 c, .string x, .string y] := by
  obtain ⟨cs, ys, n, rfl, hl, _, _, hf⟩ := cells_open hs hone hC hv h
  match cs, hl with
  | [c0, c1, c2, c3, c4], _ =>
    obtain ⟨_, _, e0, _, g0⟩ := hf 0 f0 rfl
    obtain ⟨_, _, e1, _, g1⟩ := hf 1 f1 rfl
    obtain ⟨_, _, e2, _, g2⟩ := hf 2 f2 rfl
    obtain ⟨_, _, e3, _, g3⟩ := hf 3 f3 rfl
    obtain ⟨_, _, e4, _, g4⟩ := hf 4 f4 rfl
    obtain ⟨a, rfl⟩ := of_int hi.1 g0
    obtain ⟨b, rfl⟩ := of_int hi.2.1 g1
    obtain ⟨c, rfl⟩ := of_int hi.2.2 g2
    obtain ⟨x, rfl⟩ := of_str hp.1 g3
    obtain ⟨y, rfl⟩ := of_str hp.2 g4
    cases e0; cases e1; cases e2; cases e3; cases e4
    exact ⟨a, b, c, x, y, rfl⟩
end

/-- What the row lists gives the walk's world. -/
theorem gw_of {W : World} (h : W.ShapedOpen Tryz.prog) (hl : laidMetH Tryz.prog Rows.graphNamesRow.laid W) : GW W := by
  rw [MakeChecks.laidMetH_plain _ _ _ (by kernel_rfl)] at hl
  obtain ⟨_, h1⟩ := laid_mem (x := ("internal/strconv.uint64pow10", Rows.laid_internal_strconv_uint64pow10)) hl (by repeat (first | exact List.mem_cons_self .. | apply List.mem_cons_of_mem))
  obtain ⟨_, h2⟩ := laid_mem (x := ("strconv.ErrRange", Rows.laid_strconv_ErrRange)) hl (by repeat (first | exact List.mem_cons_self .. | apply List.mem_cons_of_mem))
  obtain ⟨_, h3⟩ := laid_mem (x := ("strconv.ErrSyntax", Rows.laid_strconv_ErrSyntax)) hl (by repeat (first | exact List.mem_cons_self .. | apply List.mem_cons_of_mem))
  exact {
    maxLen := cell_of_shapedOpen_int (P := Tryz.prog) (g := 4) (t := 3) (zero := #[.int .i64 0]) h (of_decide_eq_true (by kernel_rfl)) (by kernel_rfl) rfl (by kernel_rfl) (by kernel_rfl) Tryz.underlying3
    pow10 := Lib.tabIs_of_head (k := .u64) (zs := Lib.pow10Tab) (g := 5) (t := 157) (e := 99) (n := 20) (by kernel_rfl) (by kernel_rfl) (by kernel_rfl) (by kernel_rfl) (by kernel_rfl) (by kernel_rfl)
      (show laidMet _ ((_, Lib.tabData .u64 Lib.pow10Tab) :: _) _ from (show Rows.laid_internal_strconv_uint64pow10 = (Lib.tabData .u64 Lib.pow10Tab : DataW Unit) from by kernel_rfl) ▸ h1)
    errS := iface_var h3 (g := 0) (ti := 84) (by kernel_rfl) (by kernel_rfl) Tryz.underlying84
    errR := iface_var h2 (g := 1) (ti := 84) (by kernel_rfl) (by kernel_rfl) Tryz.underlying84 }
end Go.Proofs.YtnfiigjignpkaaaGreatDoor

/- What was handed in, of whatever depth, read by the print's kinds: slices, structs, numbers, strings. -/
namespace Go.Proofs.YtnfiigjignpkaaaGreatDoor
open Go Go.RowKit Go.Deep Go.WideShapes Go.Proofs.YtnfiigjignpkaaaGreatDoorW.PrintWords Go.Proofs.YtnfiigjignpkaaaGreatDoor.K0
set_option linter.unusedVariables false

section
variable {H : Type} (enc : TypeId × Value → H) (P : Program) (w : World) (base : Nat) (spare : Nat → Bool) (held : Bool)
/-- Whatever reads as a datum of a type reads by a kind. -/
def Opens {α : Type} (t : TypeId) (d : Kd α) : Prop := ∀ (fuel : Nat) (cs : List Value) (x : DataW H × List MemPlace), DataW.trod enc P w base spare held fuel t cs = some x → ∃ a : α, d.K w a cs
variable {enc P w base spare held}
theorem opens_int {t : TypeId} {k : IntKind} (ht : P.underlying t = some (.int k)) : Opens enc P w base spare held t (Kd.int k) := by
  intro fuel cs x h
  obtain ⟨z, e, _⟩ := DataW.trod_int ht h
  exact ⟨z, e⟩
theorem opens_str {t : TypeId} (ht : P.underlying t = some .string) : Opens enc P w base spare held t Kd.string := by
  intro fuel cs x h
  obtain ⟨z, e, _⟩ := DataW.trod_string ht h
  exact ⟨z, e⟩
theorem opens_iso {α β : Type} {t : TypeId} {d : Kd α} (f : β → α) (g : α → β) (hg : ∀ a, f (g a) = a) (h : Opens enc P w base spare held t d) : Opens enc P w base spare held t (Kd.iso d f) := by
  intro fuel cs x hx
  obtain ⟨a, ha⟩ := h fuel cs x hx
  exact ⟨g a, by show d.K w (f (g a)) cs; rw [hg]; exact ha⟩
theorem opens_slice {α : Type} [Inhabited α] {t e : TypeId} {d : Kd α} (ht : P.underlying t = some (.slice e)) (hc : P.cellsOf e = d.sz) (he : Opens enc P w base spare held e d) : Opens enc P w base spare held t (Kd.slice e d) := by
  intro fuel cs x h
  rcases open_slice ht h with ⟨rfl, _⟩ | ⟨a, len, cap, m, n, D, Pl, rfl, _, hl, hm, hmm, _, hx⟩
  · exact ⟨[], none, 0, rfl, Nat.le_refl _, Kd.C_nil _ _⟩
  · have hle : len ≤ m := by rw [hmm]; split <;> omega
    obtain ⟨f, hf⟩ := choose_lt (α := α) (n := len) (p := fun i y => ∃ c : List Value, c.length = d.sz ∧ d.K w y c ∧ ∀ (j : Nat) (u : Value), c[j]? = some u → w.cell? (a.add (i * d.sz + j)) = some u) (fun i hi => by
      obtain ⟨cs', h1, h2⟩ := hx i (by omega)
      obtain ⟨y, hy⟩ := he n cs' _ h2
      obtain ⟨_, hlen, hcell⟩ := World.cells?_some h1
      rw [hc] at hlen hcell
      refine ⟨y, cs', hlen, hy, fun j u hu => ?_⟩
      have hj := (List.getElem?_eq_some_iff.1 hu).1
      have := hcell j (by omega)
      rw [Deep.add_add] at this
      rw [this, hu])
    refine ⟨(List.range len).map f, some a, cap, by simp, by simpa using hl, ?_⟩
    rw [List.length_map, List.length_range]
    refine ⟨by simp, by have : maxLen = 9223372036854775807 := rfl
                        omega, fun _ => ⟨a, rfl, fun j p hp => ?_⟩⟩
    have hj : j < len := by have := (List.getElem?_eq_some_iff.1 hp).1; simpa using this
    rw [List.getElem?_map, List.getElem?_range hj] at hp
    obtain rfl : f j = p := by simpa using hp
    exact hf j hj
theorem cut2 {cs : List Value} {n m : Nat} (h : cs.length = n + m) : cs = cs.take n ++ (cs.drop n).take m := by
  rw [List.take_of_length_le (l := cs.drop n) (by rw [List.length_drop]; omega), List.take_append_drop]
/-- Fields from a place on, one behind the other. -/
theorem opens_pair {α β : Type} {d0 : Kd α} {d1 : Kd β} {cs : List Value} (hl : cs.length = d0.sz + d1.sz) (h0 : ∃ a, d0.K w a (cs.take d0.sz)) (h1 : ∃ b, d1.K w b (cs.drop d0.sz)) : ∃ x, (Kd.pair d0 d1).K w x cs := by
  obtain ⟨a, ha⟩ := h0
  obtain ⟨b, hb⟩ := h1
  exact ⟨(a, b), cs.take d0.sz, cs.drop d0.sz, (List.take_append_drop _ _).symm, ha, hb⟩
theorem opens_two {α β : Type} {t : TypeId} {f0 f1 : Field} {d0 : Kd α} {d1 : Kd β} (ht : P.underlying t = some (.struct #[f0, f1])) (hC : P.cellsOf t = d0.sz + d1.sz)
    (ho : f0.offset = 0 ∧ f1.offset = d0.sz) (hk : P.cellsOf f0.type = d0.sz ∧ P.cellsOf f1.type = d1.sz) (h0 : Opens enc P w base spare held f0.type d0) (h1 : Opens enc P w base spare held f1.type d1) : Opens enc P w base spare held t (Kd.pair d0 d1) := by
  intro fuel cs x h
  obtain ⟨xs, n, _, _, hl, hxl, hg⟩ := DataW.trod_struct ht h
  have hs : xs.length = 2 := hxl
  have e0 := hg 0 f0 rfl
  have e1 := hg 1 f1 rfl
  rw [List.getElem?_eq_getElem (by omega)] at e0 e1
  rw [hC] at hl
  rw [ho.1, hk.1, List.drop_zero] at e0
  rw [ho.2, hk.2, List.take_of_length_le (by rw [List.length_drop]; omega)] at e1
  exact opens_pair hl (h0 _ _ _ e0) (h1 _ _ _ e1)
theorem opens_three {α β γ : Type} {t : TypeId} {f0 f1 f2 : Field} {d0 : Kd α} {d1 : Kd β} {d2 : Kd γ} (ht : P.underlying t = some (.struct #[f0, f1, f2])) (hC : P.cellsOf t = d0.sz + (d1.sz + d2.sz))
    (ho : f0.offset = 0 ∧ f1.offset = d0.sz ∧ f2.offset = d0.sz + d1.sz) (hk : P.cellsOf f0.type = d0.sz ∧ P.cellsOf f1.type = d1.sz ∧ P.cellsOf f2.type = d2.sz)
    (h0 : Opens enc P w base spare held f0.type d0) (h1 : Opens enc P w base spare held f1.type d1) (h2 : Opens enc P w base spare held f2.type d2) : Opens enc P w base spare held t (Kd.pair d0 (Kd.pair d1 d2)) := by
  intro fuel cs x h
  obtain ⟨xs, n, _, _, hl, hxl, hg⟩ := DataW.trod_struct ht h
  have hs : xs.length = 3 := hxl
  have e0 := hg 0 f0 rfl
  have e1 := hg 1 f1 rfl
  have e2 := hg 2 f2 rfl
  rw [List.getElem?_eq_getElem (by omega)] at e0 e1 e2
  rw [hC] at hl
  rw [ho.1, hk.1, List.drop_zero] at e0
  rw [ho.2.1, hk.2.1] at e1
  rw [ho.2.2, hk.2.2, ← List.drop_drop, List.take_of_length_le (by rw [List.length_drop, List.length_drop]; omega)] at e2
  exact opens_pair hl (h0 _ _ _ e0) (opens_pair (by rw [List.length_drop]; omega) (h1 _ _ _ e1) (h2 _ _ _ e2))
theorem opens_five {α β γ δ ε : Type} {t : TypeId} {f0 f1 f2 f3 f4 : Field} {d0 : Kd α} {d1 : Kd β} {d2 : Kd γ} {d3 : Kd δ} {d4 : Kd ε} (ht : P.underlying t = some (.struct #[f0, f1, f2, f3, f4])) (hC : P.cellsOf t = d0.sz + (d1.sz + (d2.sz + (d3.sz + d4.sz))))
    (ho : f0.offset = 0 ∧ f1.offset = d0.sz ∧ f2.offset = d0.sz + d1.sz ∧ f3.offset = d0.sz + d1.sz + d2.sz ∧ f4.offset = d0.sz + d1.sz + d2.sz + d3.sz)
    (hk : P.cellsOf f0.type = d0.sz ∧ P.cellsOf f1.type = d1.sz ∧ P.cellsOf f2.type = d2.sz ∧ P.cellsOf f3.type = d3.sz ∧ P.cellsOf f4.type = d4.sz)
    (h0 : Opens enc P w base spare held f0.type d0) (h1 : Opens enc P w base spare held f1.type d1) (h2 : Opens enc P w base spare held f2.type d2) (h3 : Opens enc P w base spare held f3.type d3) (h4 : Opens enc P w base spare held f4.type d4) :
    Opens enc P w base spare held t (Kd.pair d0 (Kd.pair d1 (Kd.pair d2 (Kd.pair d3 d4)))) := by
  intro fuel cs x h
  obtain ⟨xs, n, _, _, hl, hxl, hg⟩ := DataW.trod_struct ht h
  have hs : xs.length = 5 := hxl
  have e0 := hg 0 f0 rfl
  have e1 := hg 1 f1 rfl
  have e2 := hg 2 f2 rfl
  have e3 := hg 3 f3 rfl
  have e4 := hg 4 f4 rfl
  rw [List.getElem?_eq_getElem (by omega)] at e0 e1 e2 e3 e4
  rw [hC] at hl
  rw [ho.1, hk.1, List.drop_zero] at e0
  rw [ho.2.1, hk.2.1] at e1
  rw [ho.2.2.1, hk.2.2.1, ← List.drop_drop] at e2
  rw [ho.2.2.2.1, hk.2.2.2.1, ← List.drop_drop, ← List.drop_drop] at e3
  rw [ho.2.2.2.2, hk.2.2.2.2, ← List.drop_drop, ← List.drop_drop, ← List.drop_drop, List.take_of_length_le (by simp only [List.length_drop]; omega)] at e4
  exact opens_pair hl (h0 _ _ _ e0) (opens_pair (by show _ = d1.sz + (d2.sz + (d3.sz + d4.sz)); simp only [List.length_drop]; omega) (h1 _ _ _ e1) (opens_pair (by show _ = d2.sz + (d3.sz + d4.sz); simp only [List.length_drop]; omega) (h2 _ _ _ e2) (opens_pair (by show _ = d3.sz + d4.sz; simp only [List.length_drop]; omega) (h3 _ _ _ e3) (h4 _ _ _ e4))))
/-- A slice that was handed in. -/
theorem arg_slice {α : Type} [Inhabited α] {t e : TypeId} {d : Kd α} {r : Reach} {b0 : Nat} {v : Value} {x : DataW H} {p : List MemPlace} (ht : P.underlying t = some (.slice e)) (hc : P.cellsOf e = d.sz) (he : Opens enc P w base spare held e d)
    (hv : Value.okWide P w r b0 t v) (h : DataW.Trod enc P w base spare held t v x p) : ∃ (A : Option Addr) (c : Nat) (xs : List α), v = .slice A xs.length c ∧ xs.length ≤ c ∧ Kd.C d w A xs.length xs := by
  obtain ⟨a, len, cap, rfl⟩ := okWide_slice ht hv
  obtain ⟨fuel, hf⟩ := h
  obtain ⟨xs, A, c, e, h1, h2⟩ := opens_slice ht hc he fuel _ _ hf
  have e2 : Value.slice a len cap = .slice A xs.length c := (List.cons.inj e).1
  exact ⟨A, c, xs, e2, h1, h2⟩
end

section
variable {H : Type} {enc : TypeId × Value → H} {w : World} {base : Nat} {spare : Nat → Bool} {held : Bool}
set_option maxRecDepth 100000 in
theorem opens_ver : Opens enc Tryz.prog w base spare held 42 k42 :=
  opens_iso _ (fun a => ⟨a.1, a.2.1, a.2.2.1, a.2.2.2.1, a.2.2.2.2⟩) (fun _ => rfl) (opens_five (d0 := Kd.int .i64) (d1 := Kd.int .i64) (d2 := Kd.int .i64) (d3 := Kd.string) (d4 := Kd.string) Tryz.underlying42 (by kernel_rfl) ⟨rfl, rfl, rfl, rfl, rfl⟩ ⟨by kernel_rfl, by kernel_rfl, by kernel_rfl, by kernel_rfl, by kernel_rfl⟩
    (opens_int Tryz.underlying3) (opens_int Tryz.underlying3) (opens_int Tryz.underlying3) (opens_str Tryz.underlying9) (opens_str Tryz.underlying9))
set_option maxRecDepth 100000 in
theorem opens_req : Opens enc Tryz.prog w base spare held 44 k44 :=
  opens_iso _ (fun a => ⟨a.1, a.2⟩) (fun _ => rfl) (opens_two (d0 := Kd.string) (d1 := k42) Tryz.underlying44 (by kernel_rfl) ⟨rfl, rfl⟩ ⟨by kernel_rfl, by kernel_rfl⟩ (opens_str Tryz.underlying9) opens_ver)
instance : Inhabited S44 := ⟨z44⟩
instance : Inhabited S40 := ⟨z40⟩
set_option maxRecDepth 100000 in
theorem opens_mod : Opens enc Tryz.prog w base spare held 40 k40 :=
  opens_iso _ (fun a => ⟨a.1, a.2.1, a.2.2⟩) (fun _ => rfl) (opens_three (d0 := Kd.string) (d1 := Kd.string) (d2 := Kd.slice 44 k44) Tryz.underlying40 (by kernel_rfl) ⟨rfl, rfl, rfl⟩ ⟨by kernel_rfl, by kernel_rfl, by kernel_rfl⟩
    (opens_str Tryz.underlying9) (opens_str Tryz.underlying9) (opens_slice Tryz.underlying38 (by kernel_rfl) opens_req))
set_option maxRecDepth 100000 in
/-- Modules that were handed in. -/
theorem arg_mods {r : Reach} {b0 : Nat} {v : Value} {x : DataW H} {p : List MemPlace} (hv : Value.okWide Tryz.prog w r b0 22 v) (h : DataW.Trod enc Tryz.prog w base spare held 22 v x p) :
    ∃ (A : Option Addr) (c : Nat) (xs : List S40), v = .slice A xs.length c ∧ xs.length ≤ c ∧ Kd.C k40 w A xs.length xs := arg_slice Tryz.underlying22 (by kernel_rfl) opens_mod hv h
set_option maxRecDepth 100000 in
theorem arg_ints {r : Reach} {b0 : Nat} {v : Value} {x : DataW H} {p : List MemPlace} (hv : Value.okWide Tryz.prog w r b0 23 v) (h : DataW.Trod enc Tryz.prog w base spare held 23 v x p) :
    ∃ (A : Option Addr) (c : Nat) (xs : List Int), v = .slice A xs.length c ∧ xs.length ≤ c ∧ Kd.C (Kd.int .i64) w A xs.length xs := arg_slice Tryz.underlying23 (by kernel_rfl) (opens_int Tryz.underlying3) hv h
/-- The lists within modules are no longer than any machine's. -/
theorem mods_short {A : Option Addr} {n : Nat} {xs : List S40} (h : Kd.C k40 w A n xs) : ∀ x ∈ xs, x.f2.length ≤ 9223372036854775807 := by
  intro x hx
  obtain ⟨j, hj, e⟩ := List.getElem_of_mem hx
  have hl := h.1
  obtain ⟨ad, _, hc⟩ := h.2.2 (by omega)
  obtain ⟨c, _, hK, _⟩ := hc j x (by rw [List.getElem?_eq_getElem hj, e])
  obtain ⟨A2, c2, _, _, h2⟩ := k40_open hK
  exact h2.2.1
end
end Go.Proofs.YtnfiigjignpkaaaGreatDoor

/- Two numbers by value, handed in. -/
namespace Go.Proofs.YtnfiigjignpkaaaGreatDoor
open Go Go.RowKit Go.Deep Go.WideShapes Go.Proofs.YtnfiigjignpkaaaGreatDoorW.PrintWords
set_option linter.unusedVariables false

theorem arg_pair {H : Type} {enc : TypeId × Value → H} {P : Program} {w : World} {base : Nat} {spare : Nat → Bool} {held : Bool} {t e : TypeId} {k : IntKind} {r : Reach} {b0 : Nat} {v : Value} {x : DataW H} {p : List MemPlace} (ht : P.underlying t = some (.array 2 e)) (he : P.underlying e = some (.int k)) (hc : P.cellsOf e = 1) (hC : P.cellsOf t = 2)
    (hv : Value.okWide P w r b0 t v) (h : DataW.Trod enc P w base spare held t v x p) : ∃ a b : Int, v = .agg #[.int k a, .int k b] := by
  have hv2 : ∃ cs, v = .agg cs ∧ cs.size = P.cellsOf t := by
    simp only [Value.okWide, ht] at hv
    obtain ⟨cs, h1, h2, _⟩ := hv
    exact ⟨cs, h1, h2⟩
  obtain ⟨cs, rfl, hsz⟩ := hv2
  obtain ⟨fuel, hf⟩ := h
  obtain ⟨xs, m, _, _, _, hxl, hg⟩ := DataW.trod_array ht hf
  rw [hC] at hsz
  obtain ⟨l⟩ := cs
  match l, hsz with
  | [c0, c1], _ =>
    have e0 := hg 0 (by decide)
    have e1 := hg 1 (by decide)
    rw [List.getElem?_eq_getElem (by omega), hc] at e0 e1
    obtain ⟨a, ea, _⟩ := DataW.trod_int he e0
    obtain ⟨b, eb, _⟩ := DataW.trod_int he e1
    have ea2 : [c0] = [Value.int k a] := ea
    have eb2 : [c1] = [Value.int k b] := eb
    cases ea2
    cases eb2
    exact ⟨a, b, rfl⟩
end Go.Proofs.YtnfiigjignpkaaaGreatDoor
