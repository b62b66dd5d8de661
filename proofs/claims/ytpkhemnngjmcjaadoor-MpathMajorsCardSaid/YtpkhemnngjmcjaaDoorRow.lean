/- The rows of this seat: a law that answers true and leaves what it was handed alone. -/
import Derived.Test.YtpkhemnngjmcjaaDoorGw
import Derived.Test.YtpkhemnngjmcjaaDoorTie
import Derived.Test.YtpkhemnngjmcjaaDoorCards
import Derived.ProofKit
import Derived.OpenShut
import Derived.LaidMore
import Derived.Lay
import Derived.SevenTiedAt
import Derived.Stop.Joined
import Derived.Stop.LaidErr
import Derived.Carry
import Derived.Shelf.Vars
import Derived.Handed
import Derived.JoinedOf
namespace Go.Proofs.YtpkhemnngjmcjaaDoor
open Go Go.ChangeShapes Go.WideShapes Go.ChangeAt Go.RowKit Go.Joins Go.Deep Go.Proofs.YtpkhemnngjmcjaaDoorW.PrintWords
set_option linter.unusedVariables false

theorem own : ownKnob Tryd.prog.godebug = none := by kernel_rfl
theorem laidOut : laidOutB Tryd.prog = true := by kernel_rfl

section
variable {H : Type} {enc : TypeId × Value → H} {P : Program}
theorem trodAll_carry (hl : laidOutB P = true) {W W' : World} (hb : Below W.heap.size W W') : ∀ {ts : List TypeId} {vs : List Value} {ds : List (DataW H)} {ps : List MemPlace},
    (ts.all fun t => P.readableRec t && decide (t < P.types.size)) = true → DataW.TrodAll enc P W 0 (fun _ => true) true ts vs ds ps → ∀ sp : Nat → Bool, (∀ p ∈ ps, sp p.block = true) → DataW.TrodAll enc P W' 0 sp true ts vs ds ps
  | [], [], [], _, _, h, _, _ => h
  | [], [], _ :: _, _, _, h, _, _ => h.elim
  | [], _ :: _, _, _, _, h, _, _ => h.elim
  | _ :: _, [], _, _, _, h, _, _ => h.elim
  | _ :: _, _ :: _, [], _, _, h, _, _ => h.elim
  | t :: ts, v :: vs, d :: ds, ps, hr, h, sp, hs => by
    have hlt := h.lt
    obtain ⟨p, q, h1, h2, rfl⟩ := h
    simp only [List.all_cons, Bool.and_eq_true, decide_eq_true_eq] at hr
    exact ⟨p, q, WideElems.Trod_stays hl hr.1.1 hr.1.2 h1 (fun x hx => hb.same (hlt x (by simp [hx]))) (fun x hx => hs x (by simp [hx])),
      trodAll_carry hl hb (by simpa using hr.2) h2 sp (fun x hx => hs x (by simp [hx])), rfl⟩

theorem post_true {f : Func} {s : ChangeSpec} {W W' : World} {args : Array Value} {ds : List (DataW H)} {before : List MemPlace} {tb : TypeId} (hl : laidOutB P = true) (hv : s.vars = [])
    (hW : DataW.Whole enc P f.params.toList s.vars false W args.toList ds [] before) (hr : (f.params.toList.all fun t => P.readableRec t && decide (t < P.types.size)) = true)
    (hres : f.resultTypes = #[tb]) (hbool : P.underlying tb = some .bool) (hfn : s.fn H (ds ++ []) = { results := [.lit (.bool true)], args := ds }) (hb : Below W.heap.size W W') :
    s.post enc P f false true false false W args (.bool true) W' := by
  have hlt := hW.lt
  obtain ⟨p, q, hA, hV, hpq, hz, hn⟩ := hW
  have hq : q = [] := by rw [hv] at hV; exact hV
  subst hq
  rw [List.append_nil] at hpq
  subst hpq
  refine ⟨ds, [], before, [], before, [], ⟨before, [], hA, hV, (List.append_nil _).symm, hz, hn⟩, ?_, ?_, ?_, hb.frame _, fun h => by cases h⟩
  · rw [hfn, hres]
    exact trodAll_mk1 (shut_bool hbool _)
  · rw [hfn]
    exact trodAll_carry hl hb hr hA _ (fun x hx => by simpa using hlt x hx)
  · rw [hfn, hv]
    exact rfl

theorem lifted_of {C : Checked} {os : Os} {f : FuncId} {fn : Func} {s : ChangeSpec} {conds : List PathCond} {laid : List (String × DataW Unit)} {tb : TypeId} (hl : laidOutB C.prog = true) (hv : s.vars = [])
    (own : ownKnob C.prog.godebug = none) (started : os.Started) (noInit : C.prog.inits.idxOf? f = none) (hfn : C.prog.funcs[f]? = some fn)
    (hr : (fn.params.toList.all fun t => C.prog.readableRec t && decide (t < C.prog.types.size)) = true)
    (hres : fn.resultTypes = #[tb]) (hbool : C.prog.underlying tb = some .bool)
    (hspec : ∀ ds : List (DataW H), ds.length = fn.params.size → s.fn H (ds ++ []) = { results := [.lit (.bool true)], args := ds })
    (witness : ∃ (w : World) (tape : Tape) (i : Input), w.os = os ∧ (w.forCall tape i).Shaped C.prog ∧ i.vars = [] ∧ Input.okWide C.prog (w.forCall tape i) .any w.heap.size f i ∧
      ((s.pre enc C.prog fn conds false (w.forCall tape i).memory i.args ∧ laidMetH C.prog laid (w.forCall tape i).memory) ∧ sizedMet enc C.prog fn (OpenSpec.ofChange s) false (w.forCall tape i).memory i.args) ∧
      ({} : Assume).holds C.prog (lone (Frame.enter C.prog f i.args .normal) [] (w.forCall tape i)))
    (law : ∀ (W : World) (base : Nat) (args : Array Value) (ds : List (DataW H)) (ps : List MemPlace),
      (∀ (j : Nat) t v, fn.params[j]? = some t → args[j]? = some v → Value.okWide C.prog W .any base t v) →
      DataW.TrodAll enc C.prog W 0 (fun _ => true) true fn.params.toList args.toList ds ps →
      (DataW.weightsEach C.prog fn.params.toList ds).all (· ≤ reachBytes) = true →
      W.ShapedOpen C.prog → laidMetH C.prog laid W →
      Calls C.prog f args W fun e W' => e = .returned (.bool true) ∧ Below W.heap.size W W') :
    ReturnsInHanded {} C os f .any (fun w args => (s.pre enc C.prog fn conds false w args ∧ laidMetH C.prog laid w) ∧ sizedMet enc C.prog fn (OpenSpec.ofChange s) false w args) (s.post enc C.prog fn false true false false) := by
  refine returnsInHanded_of_calls own started noInit witness ?_
  intro w tape i _ hsh _ hok hpre hholds
  obtain ⟨_, _, _, fn', hfn', _, _, _, _, hval⟩ := hok
  have e : fn' = fn := Option.some.inj (hfn'.symm.trans hfn)
  subst e
  obtain ⟨⟨⟨ds, gs, before, hw, hc⟩, hx⟩, hz⟩ := hpre
  have hgs : gs = [] := by
    obtain ⟨_, _, _, hV, _⟩ := hw
    rw [hv] at hV
    cases gs with
    | nil => rfl
    | cons _ _ => exact hV.elim
  subst hgs
  have hw' := DataW.Whole.of_heap (w' := w.forCall tape i) (by rfl) hw
  have hz' := hz.weights hw
  obtain ⟨p, q, hA, _⟩ := hw'
  have hlen : ∀ {ts : List TypeId} {vs : List Value} {ds : List (DataW H)} {ps : List MemPlace}, DataW.TrodAll enc C.prog (w.forCall tape i) 0 (fun _ => true) true ts vs ds ps → ds.length = ts.length := by
    intro ts
    induction ts with
    | nil => intro vs ds ps h; cases vs <;> cases ds <;> first | rfl | exact h.elim
    | cons t ts ih =>
      intro vs ds ps h
      cases vs <;> cases ds <;> first | exact h.elim | skip
      obtain ⟨_, _, _, h2, _⟩ := h
      simp [ih h2]
  have hz2 : (DataW.weightsEach C.prog fn'.params.toList ds).all (· ≤ reachBytes) = true := by
    have e1 : (OpenSpec.ofChange s).bare.plain.varTypes C.prog = [] := by
      show s.plain.varTypes C.prog = []
      unfold DataSpec.varTypes ChangeSpec.plain
      simp [hv]
    rw [e1, List.append_nil, List.append_nil] at hz'
    exact hz'
  refine (law (w.forCall tape i) w.heap.size i.args ds p hval hA hz2 hsh (hx.of_heap (by rfl))).mono fun e W' ⟨he, hb⟩ => ?_
  subst he
  refine ChangeSpec.post_blind (post_true hl hv (DataW.Whole.of_heap (w' := w.forCall tape i) (by rfl) hw) hr hres hbool (hspec ds ?_) hb)
  rw [hlen hA]; simp
end

theorem laid_mem {P : Program} {W : World} {x : String × DataW Unit} : ∀ {l : List (String × DataW Unit)}, laidMet P l W → x ∈ l → ∃ r, laidMet P (x :: r) W
  | [], _, h => by cases h
  | y :: l, hl, h => by
    rcases List.mem_cons.1 h with rfl | h'
    · exact ⟨l, hl⟩
    · exact laid_mem hl.tail h'
theorem iface_var {P : Program} {W : World} {n nm : String} {d : DataW Unit} {r : List (String × DataW Unit)} {g : Nat} {ti : TypeId} {ms : Array (String × TypeId)} (h : laidMet P ((n, .iface nm d) :: r) W)
    (hg : P.globalNamed n = some g) (ht : (P.globals[g]?).map (·.type) = some ti) (hi : P.underlying ti = some (.interface ms)) : ∃ tp p, W.var? P n = some #[.iface tp p] := by
  obtain ⟨ps, ⟨g0, t0, cs0, f0, p0, q0, hg0, ht0, hv0, hd0, _, _⟩, _, _⟩ := h
  obtain rfl := Option.some.inj (hg.symm.trans hg0)
  obtain rfl := Option.some.inj (ht.symm.trans ht0)
  obtain ⟨l0⟩ := cs0
  cases f0 with
  | zero => cases hd0
  | succ f0 =>
    unfold DataW.trod at hd0
    rw [hi] at hd0
    split at hd0 <;> first
      | (rename_i h1 h2; cases h1; done)
      | skip
    all_goals first
      | (cases hd0; done)
      | (rename_i u v h1 h2; simp only at h2; subst h2; exact ⟨u, v, hv0⟩)
      | skip
    all_goals (rename_i h1; cases h1)

section
variable {H : Type} {enc : TypeId × Value → H} {P : Program} {w : World} {base : Nat} {spare : Nat → Bool} {held : Bool}
/-- A struct by value whose fields are one cell each: cell by cell. -/
theorem cells_open {r : Reach} {b0 : Nat} {t : TypeId} {fs : Array Field} {v : Value} {d : DataW H} {p : List MemPlace} (hs : P.underlying t = some (.struct fs)) (hone : oneCellFields P fs = true) (hC : P.cellsOf t = fs.size)
    (hv : Value.okWide P w r b0 t v) (h : DataW.Trod enc P w base spare held t v d p) :
    ∃ (cs : List Value) (ys : List (DataW H × List MemPlace)) (n : Nat), v = .agg cs.toArray ∧ cs.length = fs.size ∧ d = .agg (ys.map (·.1)) ∧ ys.length = fs.size ∧
      ∀ (j : Nat) (f : Field), fs[j]? = some f → ∃ c y, cs[j]? = some c ∧ ys[j]? = some y ∧ DataW.trod enc P w base spare held n f.type [c] = some y := by
  obtain ⟨cs, rfl, hsz⟩ := okWide_struct hs hv
  obtain ⟨fuel, hf⟩ := h
  obtain ⟨ys, n, _, hx, _, hlen, hg⟩ := DataW.trod_struct hs hf
  simp only [Prod.mk.injEq] at hx
  refine ⟨cs.toList, ys, n, rfl, by simpa using hsz.trans hC, hx.1, by simpa using hlen, fun j f hj => ?_⟩
  obtain ⟨ho, hk⟩ := hone_of hone j f hj
  have hj2 : j < fs.size := (Array.getElem?_eq_some_iff.1 hj).1
  have hcl : cs.toList.length = fs.size := by simpa using hsz.trans hC
  have hg2 := hg j f hj
  have e : ((Value.agg cs).cells.toList.drop f.offset).take (P.cellsOf f.type) = [cs.toList[j]'(by omega)] := by
    rw [ho, hk]
    show (cs.toList.drop j).take 1 = _
    rw [List.drop_eq_getElem_cons (by omega)]
    rfl
  rw [e] at hg2
  have hyl : ys.length = fs.size := by simpa using hlen
  exact ⟨_, _, List.getElem?_eq_getElem (by omega), List.getElem?_eq_getElem (by omega), hg2.trans (List.getElem?_eq_getElem (by omega))⟩
theorem of_int {n : Nat} {t : TypeId} {k : IntKind} {c : Value} {y : DataW H × List MemPlace} (ht : P.underlying t = some (.int k)) (h : DataW.trod enc P w base spare held n t [c] = some y) : ∃ z, c = .int k z := by
  obtain ⟨z, e, _⟩ := DataW.trod_int ht h
  exact ⟨z, (List.cons.inj e).1⟩
theorem of_str {n : Nat} {t : TypeId} {c : Value} {y : DataW H × List MemPlace} (ht : P.underlying t = some .string) (h : DataW.trod enc P w base spare held n t [c] = some y) : ∃ z, c = .string z := by
  obtain ⟨z, e, _⟩ := DataW.trod_string ht h
  exact ⟨z, (List.cons.inj e).1⟩
/-- A version: three numbers, two strings. -/
theorem ver_open {r : Reach} {b0 : Nat} {t : TypeId} {f0 f1 f2 f3 f4 : Field} {v : Value} {d : DataW H} {p : List MemPlace} (hs : P.underlying t = some (.struct #[f0, f1, f2, f3, f4])) (hone : oneCellFields P #[f0, f1, f2, f3, f4] = true) (hC : P.cellsOf t = 5)
    (hi : P.underlying f0.type = some (.int .i64) ∧ P.underlying f1.type = some (.int .i64) ∧ P.underlying f2.type = some (.int .i64)) (hp : P.underlying f3.type = some .string ∧ P.underlying f4.type = some .string)
    (hv : Value.okWide P w r b0 t v) (h : DataW.Trod enc P w base spare held t v d p) : ∃ (a b c : Int) (x y : ByteArray), v = .agg #[.int .i64 a, .int .i64 b, .int .i64 c, .string x, .string y] := by
  obtain ⟨cs, ys, n, rfl, hl, _, _, hf⟩ := cells_open hs hone hC hv h
  match cs, hl with
  | [c0, c1, c2, c3, c4], _ =>
    obtain ⟨_, _, e0, _, g0⟩ := hf 0 f0 rfl
    obtain ⟨_, _, e1, _, g1⟩ := hf 1 f1 rfl
    obtain ⟨_, _, e2, _, g2⟩ := hf 2 f2 rfl
    obtain ⟨_, _, e3, _, g3⟩ := hf 3 f3 rfl
    obtain ⟨_, _, e4, _, g4⟩ := hf 4 f4 rfl
    obtain ⟨a, rfl⟩ := of_int hi.1 g0
    obtain ⟨b, rfl⟩ := of_int hi.2.1 g1
    obtain ⟨c, rfl⟩ := of_int hi.2.2 g2
    obtain ⟨x, rfl⟩ := of_str hp.1 g3
    obtain ⟨y, rfl⟩ := of_str hp.2 g4
    cases e0; cases e1; cases e2; cases e3; cases e4
    exact ⟨a, b, c, x, y, rfl⟩
end

/-- What the row lists gives the walk's world. -/
theorem gw_of {W : World} (h : W.ShapedOpen Tryd.prog) (hl : laidMetH Tryd.prog Rows.mpathMajorsRow.laid W) : GW W := by
  rw [MakeChecks.laidMetH_plain _ _ _ (by kernel_rfl)] at hl
  obtain ⟨_, h1⟩ := laid_mem (x := ("internal/strconv.uint64pow10", Rows.laid_internal_strconv_uint64pow10)) hl (by repeat (first | exact List.mem_cons_self .. | apply List.mem_cons_of_mem))
  obtain ⟨_, h2⟩ := laid_mem (x := ("strconv.ErrRange", Rows.laid_strconv_ErrRange)) hl (by repeat (first | exact List.mem_cons_self .. | apply List.mem_cons_of_mem))
  obtain ⟨_, h3⟩ := laid_mem (x := ("strconv.ErrSyntax", Rows.laid_strconv_ErrSyntax)) hl (by repeat (first | exact List.mem_cons_self .. | apply List.mem_cons_of_mem))
  exact {
    maxLen := cell_of_shapedOpen_int (P := Tryd.prog) (g := 0) (t := 3) (zero := #[.int .i64 0]) h (of_decide_eq_true (by kernel_rfl)) (by kernel_rfl) rfl (by kernel_rfl) (by kernel_rfl) Tryd.underlying3
    pow10 := Lib.tabIs_of_head (k := .u64) (zs := Lib.pow10Tab) (g := 5) (t := 107) (e := 84) (n := 20) (by kernel_rfl) (by kernel_rfl) (by kernel_rfl) (by kernel_rfl) (by kernel_rfl) (by kernel_rfl)
      (show laidMet _ ((_, Lib.tabData .u64 Lib.pow10Tab) :: _) _ from (show Rows.laid_internal_strconv_uint64pow10 = (Lib.tabData .u64 Lib.pow10Tab : DataW Unit) from by kernel_rfl) ▸ h1)
    errS := iface_var h3 (g := 1) (ti := 47) (by kernel_rfl) (by kernel_rfl) Tryd.underlying47
    errR := iface_var h2 (g := 2) (ti := 47) (by kernel_rfl) (by kernel_rfl) Tryd.underlying47 }
end Go.Proofs.YtpkhemnngjmcjaaDoor
