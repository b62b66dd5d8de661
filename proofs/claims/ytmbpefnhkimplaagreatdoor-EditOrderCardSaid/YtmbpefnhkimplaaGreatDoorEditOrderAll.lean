/- The law armadalaw11.EditOrder answers true whatever it is handed, and what it was handed reads as it did; its tied card holds.
   Conditions: those of the row and the card alone: the listed variables of Go's library hold what the program's own text lays in them. -/
import Derived.Test.YtmbpefnhkimplaaGreatDoorZE5
import Derived.Test.YtmbpefnhkimplaaGreatDoorTie
import Derived.Test.YtmbpefnhkimplaaGreatDoorCards
import Derived.ProofKit
import Derived.OpenShut
import Derived.LaidMore
import Derived.LaidSub
import Derived.LaidHandle
import Derived.Lay
import Derived.SevenTiedAt
import Derived.Stop.Joined
import Derived.Stop.LaidErr
import Derived.Carry
import Derived.Shelf.Vars
import Derived.Handed
import Derived.JoinedOf
import Derived.Test.YtmbpefnhkimplaaGreatDoorZE7
import Derived.Test.YtmbpefnhkimplaaGreatDoorZE41
import Derived.Test.YtmbpefnhkimplaaGreatDoorZE42
import Derived.Test.YtmbpefnhkimplaaGreatDoorZE4
import Derived.Test.YtmbpefnhkimplaaGreatDoorZE43
import Derived.Lib.SmallJoins
section
namespace Go.Proofs.YtmbpefnhkimplaaGreatDoor
open Go Go.ChangeShapes Go.WideShapes Go.ChangeAt Go.RowKit Go.Joins Go.Deep Go.Proofs.YtmbpefnhkimplaaGreatDoorW.PrintWords
set_option linter.unusedVariables false
theorem own : ownKnob Tryz.prog.godebug = none := by kernel_rfl
theorem laidOut : laidOutB Tryz.prog = true := by kernel_rfl
section
variable {H : Type} {enc : TypeId × Value → H} {P : Program}
theorem trodAll_carry (hl : laidOutB P = true) {W W' : World} (hb : Below W.heap.size W W') : ∀ {ts : List TypeId} {vs : List Value} {ds : List (DataW H)} {ps : List MemPlace},
    (ts.all fun t => P.readableRec t && decide (t < P.types.size)) = true → DataW.TrodAll enc P W 0 (fun _ => true) true ts vs ds ps → ∀ sp : Nat → Bool, (∀ p ∈ ps, sp p.block = true) → DataW.TrodAll enc P W' 0 sp true ts vs ds ps
  | [], [], [], _, _, h, _, _ => h
  | [], [], _ :: _, _, _, h, _, _ => h.elim
  | [], _ :: _, _, _, _, h, _, _ => h.elim
  | _ :: _, [], _, _, _, h, _, _ => h.elim
  | _ :: _, _ :: _, [], _, _, h, _, _ => h.elim
  | t :: ts, v :: vs, d :: ds, ps, hr, h, sp, hs => by
    have hlt := h.lt
    obtain ⟨p, q, h1, h2, rfl⟩ := h
    simp only [List.all_cons, Bool.and_eq_true, decide_eq_true_eq] at hr
    exact ⟨p, q, WideElems.Trod_stays hl hr.1.1 hr.1.2 h1 (fun x hx => hb.same (hlt x (by simp [hx]))) (fun x hx => hs x (by simp [hx])),
      trodAll_carry hl hb (by simpa using hr.2) h2 sp (fun x hx => hs x (by simp [hx])), rfl⟩
theorem post_true {f : Func} {s : ChangeSpec} {W W' : World} {args : Array Value} {ds : List (DataW H)} {before : List MemPlace} {tb : TypeId} (hl : laidOutB P = true) (hv : s.vars = [])
    (hW : DataW.Whole enc P f.params.toList s.vars false W args.toList ds [] before) (hr : (f.params.toList.all fun t => P.readableRec t && decide (t < P.types.size)) = true)
    (hres : f.resultTypes = #[tb]) (hbool : P.underlying tb = some .bool) (hfn : s.fn H (ds ++ []) = { results := [.lit (.bool true)], args := ds }) (hb : Below W.heap.size W W') :
    s.post enc P f false true false false W args (.bool true) W' := by
  have hlt := hW.lt
  obtain ⟨p, q, hA, hV, hpq, hz, hn⟩ := hW
  have hq : q = [] := by rw [hv] at hV; exact hV
  subst hq
  rw [List.append_nil] at hpq
  subst hpq
  refine ⟨ds, [], before, [], before, [], ⟨before, [], hA, hV, (List.append_nil _).symm, hz, hn⟩, ?_, ?_, ?_, hb.frame _, fun h => by cases h⟩
  · rw [hfn, hres]
    exact trodAll_mk1 (shut_bool hbool _)
  · rw [hfn]
    exact trodAll_carry hl hb hr hA _ (fun x hx => by simpa using hlt x hx)
  · rw [hfn, hv]
    exact rfl
theorem lifted_of {C : Checked} {os : Os} {f : FuncId} {fn : Func} {s : ChangeSpec} {conds : List PathCond} {laid : List (String × DataW Unit)} {tb : TypeId} (hl : laidOutB C.prog = true) (hv : s.vars = [])
    (own : ownKnob C.prog.godebug = none) (started : os.Started) (noInit : C.prog.inits.idxOf? f = none) (hfn : C.prog.funcs[f]? = some fn)
    (hr : (fn.params.toList.all fun t => C.prog.readableRec t && decide (t < C.prog.types.size)) = true)
    (hres : fn.resultTypes = #[tb]) (hbool : C.prog.underlying tb = some .bool)
    (hspec : ∀ ds : List (DataW H), ds.length = fn.params.size → s.fn H (ds ++ []) = { results := [.lit (.bool true)], args := ds })
    (witness : ∃ (w : World) (tape : Tape) (i : Input), w.os = os ∧ (w.forCall tape i).Shaped C.prog ∧ i.vars = [] ∧ Input.okWide C.prog (w.forCall tape i) .any w.heap.size f i ∧
      ((s.pre enc C.prog fn conds false (w.forCall tape i).memory i.args ∧ laidMetH C.prog laid (w.forCall tape i).memory) ∧ sizedMet enc C.prog fn (OpenSpec.ofChange s) false (w.forCall tape i).memory i.args) ∧
      ({} : Assume).holds C.prog (lone (Frame.enter C.prog f i.args .normal) [] (w.forCall tape i)))
    (law : ∀ (W : World) (base : Nat) (args : Array Value) (ds : List (DataW H)) (ps : List MemPlace),
      (∀ (j : Nat) t v, fn.params[j]? = some t → args[j]? = some v → Value.okWide C.prog W .any base t v) →
      DataW.TrodAll enc C.prog W 0 (fun _ => true) true fn.params.toList args.toList ds ps →
      (DataW.weightsEach C.prog fn.params.toList ds).all (· ≤ reachBytes) = true →
      W.ShapedOpen C.prog → laidMetH C.prog laid W →
      Calls C.prog f args W fun e W' => e = .returned (.bool true) ∧ Below W.heap.size W W') :
    ReturnsInHanded {} C os f .any (fun w args => (s.pre enc C.prog fn conds false w args ∧ laidMetH C.prog laid w) ∧ sizedMet enc C.prog fn (OpenSpec.ofChange s) false w args) (s.post enc C.prog fn false true false false) := by
  refine returnsInHanded_of_calls own started noInit witness ?_
  intro w tape i _ hsh _ hok hpre hholds
  obtain ⟨_, _, _, fn', hfn', _, _, _, _, hval⟩ := hok
  have e : fn' = fn := Option.some.inj (hfn'.symm.trans hfn)
  subst e
  obtain ⟨⟨⟨ds, gs, before, hw, hc⟩, hx⟩, hz⟩ := hpre
  have hgs : gs = [] := by
    obtain ⟨_, _, _, hV, _⟩ := hw
    rw [hv] at hV
    cases gs with
    | nil => rfl
    | cons _ _ => exact hV.elim
  subst hgs
  have hw' := DataW.Whole.of_heap (w' := w.forCall tape i) (by rfl) hw
  have hz' := hz.weights hw
  obtain ⟨p, q, hA, _⟩ := hw'
  have hlen : ∀ {ts : List TypeId} {vs : List Value} {ds : List (DataW H)} {ps : List MemPlace}, DataW.TrodAll enc C.prog (w.forCall tape i) 0 (fun _ => true) true ts vs ds ps → ds.length = ts.length := by
    intro ts
    induction ts with
    | nil => intro vs ds ps h; cases vs <;> cases ds <;> first | rfl | exact h.elim
    | cons t ts ih =>
      intro vs ds ps h
      cases vs <;> cases ds <;> first | exact h.elim | skip
      obtain ⟨_, _, _, h2, _⟩ := h
      simp [ih h2]
  have hz2 : (DataW.weightsEach C.prog fn'.params.toList ds).all (· ≤ reachBytes) = true := by
    have e1 : (OpenSpec.ofChange s).bare.plain.varTypes C.prog = [] := by
      show s.plain.varTypes C.prog = []
      unfold DataSpec.varTypes ChangeSpec.plain
      simp [hv]
    rw [e1, List.append_nil, List.append_nil] at hz'
    exact hz'
  refine (law (w.forCall tape i) w.heap.size i.args ds p hval hA hz2 hsh (hx.of_heap (by rfl))).mono fun e W' ⟨he, hb⟩ => ?_
  subst he
  refine ChangeSpec.post_blind (post_true hl hv (DataW.Whole.of_heap (w' := w.forCall tape i) (by rfl) hw) hr hres hbool (hspec ds ?_) hb)
  rw [hlen hA]; simp
end
theorem laid_mem {P : Program} {W : World} {x : String × DataW Unit} : ∀ {l : List (String × DataW Unit)}, laidMet P l W → x ∈ l → ∃ r, laidMet P (x :: r) W
  | [], _, h => by cases h
  | y :: l, hl, h => by
    rcases List.mem_cons.1 h with rfl | h'
    · exact ⟨l, hl⟩
    · exact laid_mem hl.tail h'
theorem iface_var {P : Program} {W : World} {n nm : String} {d : DataW Unit} {r : List (String × DataW Unit)} {g : Nat} {ti : TypeId} {ms : Array (String × TypeId)} (h : laidMet P ((n, .iface nm d) :: r) W)
    (hg : P.globalNamed n = some g) (ht : (P.globals[g]?).map (·.type) = some ti) (hi : P.underlying ti = some (.interface ms)) : ∃ tp p, W.var? P n = some #[.iface tp p] := by
  obtain ⟨ps, ⟨g0, t0, cs0, f0, p0, q0, hg0, ht0, hv0, hd0, _, _⟩, _, _⟩ := h
  obtain rfl := Option.some.inj (hg.symm.trans hg0)
  obtain rfl := Option.some.inj (ht.symm.trans ht0)
  obtain ⟨l0⟩ := cs0
  cases f0 with
  | zero => cases hd0
  | succ f0 =>
    unfold DataW.trod at hd0
    rw [hi] at hd0
    split at hd0 <;> first
      | (rename_i h1 h2; cases h1; done)
      | skip
    all_goals first
      | (cases hd0; done)
      | (rename_i u v h1 h2; simp only at h2; subst h2; exact ⟨u, v, hv0⟩)
      | skip
    all_goals (rename_i h1; cases h1)
section
variable {H : Type} {enc : TypeId × Value → H} {P : Program} {w : World} {base : Nat} {spare : Nat → Bool} {held : Bool}
end
/-- A world in which the listed variables hold what the program lays, a type's handle among them. -/
noncomputable def handW (os : Os) : World :=
  let w0 := World.holding Tryz.prog os ⟨#[], #[], []⟩
  { w0 with heap := w0.heap.modify 1 fun
      | .cells _ t frozen => .cells #[.iface 198 (.agg #[typeHandle Tryz.prog 95])] t frozen
      | o => o }
noncomputable def laidHW (os : Os) (l : List (String × DataW Unit)) : World := (handW os).layVars Tryz.prog (l.filter fun x => x.2.handleName?.isNone)
theorem laidHW_os (os : Os) (l : List (String × DataW Unit)) : (laidHW os l).os = os := World.layVars_os _ _ _
theorem laidHW_met {os : Os} {l : List (String × DataW Unit)} (args : Array Value) (hf : (handW os).layFits Tryz.prog (l.filter fun x => x.2.handleName?.isNone) [] = true)
    (hi : (handW os).layIfaces Tryz.prog (l.filter fun x => x.2.handleName?.isNone) (laidHW os l) = true)
    (hh : (l.filter fun x => x.2.handleName?.isSome).all (handleAtB Tryz.prog ((laidHW os l).forCall (fun _ _ => 0) ⟨#[], args, []⟩).memory) = true) :
    laidMetH Tryz.prog l ((laidHW os l).forCall (fun _ _ => 0) ⟨#[], args, []⟩).memory := by
  refine laidMetH_of_parts ?_ hh
  generalize hp : (l.filter fun x => x.2.handleName?.isNone) = p at hf hi
  have e1 : (p.filter fun x => (p.map (·.1)).contains x.1) = p := List.filter_eq_self.2 fun x hx => List.contains_iff_mem.2 (List.mem_map.2 ⟨x, hx, rfl⟩)
  have e2 : (p.filter fun x => !(p.map (·.1)).contains x.1) = [] := List.filter_eq_nil_iff.2 fun x hx => by rw [List.contains_iff_mem.2 (List.mem_map.2 ⟨x, hx, rfl⟩)]; simp
  have h : laidMet Tryz.prog p (laidHW os l) := laidMet_layVars (w0 := handW os) (p.map (·.1)) [] (by rw [e1]; unfold laidHW; rw [hp]) (by rw [e1]; exact hf) (by rw [e1]; exact hi) (by rw [e2]; exact LaidIn.none)
  exact h.of_heap (by simp [World.memory, World.forCall, Input.heap])
/-- What the row lists gives the walk's world. -/
theorem gw_of {W : World} (h : W.ShapedOpen Tryz.prog) (hl : laidMetH Tryz.prog Rows.editOrderRow.laid W) : GW W := by
  obtain ⟨hl, hh⟩ := laidMetH_iff.1 hl
  have hT : W.cell? ⟨1, 0, none⟩ = some (.iface 198 (.agg #[typeHandle Tryz.prog 95])) := by
    obtain ⟨name, u, ty, e1, e2, e3, e4, e5⟩ := hh ("errors.errorType", Rows.laid_errors_errorType) (List.mem_filter.2 ⟨by repeat (first | exact List.mem_cons_self .. | apply List.mem_cons_of_mem), rfl⟩)
    have en : name = [101, 114, 114, 111, 114] := (Option.some.inj e1).symm
    subst en
    obtain rfl := Option.some.inj ((show (Tryz.prog.cutTypes.find? (·.1 == "internal/reflectlite.rtype")).map (·.2) = some 198 by kernel_rfl).symm.trans e2)
    have hm : ty ∈ (List.range Tryz.prog.types.size).filter fun t => Tryz.prog.rowNamed t [101, 114, 114, 111, 114] := List.mem_filter.2 ⟨List.mem_range.2 e3, e4⟩
    rw [show ((List.range Tryz.prog.types.size).filter fun t => Tryz.prog.rowNamed t [101, 114, 114, 111, 114]) = [95] by kernel_rfl] at hm
    obtain rfl := List.mem_singleton.1 hm
    simpa using World.var?_cell (show Tryz.prog.globalNamed "errors.errorType" = some 1 by kernel_rfl) e5 0
  obtain ⟨_, h1⟩ := laid_mem (x := ("internal/strconv.uint64pow10", Rows.laid_internal_strconv_uint64pow10)) hl (List.mem_filter.2 ⟨by repeat (first | exact List.mem_cons_self .. | apply List.mem_cons_of_mem), rfl⟩)
  obtain ⟨_, h2⟩ := laid_mem (x := ("strconv.ErrRange", Rows.laid_strconv_ErrRange)) hl (List.mem_filter.2 ⟨by repeat (first | exact List.mem_cons_self .. | apply List.mem_cons_of_mem), rfl⟩)
  obtain ⟨_, h3⟩ := laid_mem (x := ("strconv.ErrSyntax", Rows.laid_strconv_ErrSyntax)) hl (List.mem_filter.2 ⟨by repeat (first | exact List.mem_cons_self .. | apply List.mem_cons_of_mem), rfl⟩)
  exact {
    maxLen := cell_of_shapedOpen_int (P := Tryz.prog) (g := 0) (t := 3) (zero := #[.int .i64 0]) h (of_decide_eq_true (by kernel_rfl)) (by kernel_rfl) rfl (by kernel_rfl) (by kernel_rfl) Tryz.underlying3
    pow10 := Lib.tabIs_of_head (k := .u64) (zs := Lib.pow10Tab) (g := 2) (t := 248) (e := 215) (n := 20) (by kernel_rfl) (by kernel_rfl) (by kernel_rfl) (by kernel_rfl) (by kernel_rfl) (by kernel_rfl)
      (show laidMet _ ((_, Lib.tabData .u64 Lib.pow10Tab) :: _) _ from (show Rows.laid_internal_strconv_uint64pow10 = (Lib.tabData .u64 Lib.pow10Tab : DataW Unit) from by kernel_rfl) ▸ h1)
    errT := hT
    errS := iface_var h3 (g := 5) (ti := 95) (by kernel_rfl) (by kernel_rfl) Tryz.underlying95
    errR := iface_var h2 (g := 6) (ti := 95) (by kernel_rfl) (by kernel_rfl) Tryz.underlying95 }
end Go.Proofs.YtmbpefnhkimplaaGreatDoor
end

section
namespace Go.Proofs.YtmbpefnhkimplaaGreatDoor.LOrder
open Go.RowKit Go.Proofs.YtmbpefnhkimplaaGreatDoor Go.Proofs.YtmbpefnhkimplaaGreatDoor.K0 Go.Proofs.YtmbpefnhkimplaaGreatDoor.RS Go.Proofs.YtmbpefnhkimplaaGreatDoorW.PrintWords Go.Proofs.YtmbpefnhkimplaaGreatDoorW.PrintLast Go.Proofs.YtmbpefnhkimplaaGreatDoorW.PrintMore
attribute [local go_sem] max2_int min2_int max_two min_two max_three min_three max_four min_four
set_option linter.unusedVariables false
set_option linter.unusedSimpArgs false
end Go.Proofs.YtmbpefnhkimplaaGreatDoor.LOrder
end

section
namespace Go.Proofs.YtmbpefnhkimplaaGreatDoor.LOrder
open Go.RowKit Go.Proofs.YtmbpefnhkimplaaGreatDoor Go.Proofs.YtmbpefnhkimplaaGreatDoor.K0 Go.Proofs.YtmbpefnhkimplaaGreatDoor.RS Go.Proofs.YtmbpefnhkimplaaGreatDoorW.PrintWords Go.Proofs.YtmbpefnhkimplaaGreatDoorW.PrintLast Go.Proofs.YtmbpefnhkimplaaGreatDoorW.PrintMore
attribute [local go_sem] max2_int min2_int max_two min_two max_three min_three max_four min_four
set_option linter.unusedVariables false
set_option linter.unusedSimpArgs false
mutual
def armadalaw11_EditOrder.j0 : Nat → ByteArray → Bool → ByteArray → Int → Int → Int → ByteArray → ByteArray → ByteArray → Int → Int → Int → ByteArray → ByteArray → Option (Bool)
 | 0, _, _, _, _, _, _, _, _, _, _, _, _, _, _ => none
 | k + 1, x0, x24, x102000, x102001, x102002, x102003, x102004, x102005, x103000, x103001, x103002, x103003, x103004, x103005 => if x24 = true then ((armadalaw11_live.f).bind fun t107 => (some t107)) else ((edit_Set.f x0 x102000 x102001 x102002 x102003 x102004 x102005).bind fun bt108 => ((edit_Set.f x0 x103000 x103001 x103002 x103003 x103004 x103005).bind fun bt110 => (if bt108.2 = 0 then (armadalaw11_EditOrder.j1 k bt108.1 bt110.1 (bt110.2 != 0) x102000 x102001 x102002 x102003 x102004 x102005 x103000 x103001 x103002 x103003 x103004 x103005) else (armadalaw11_EditOrder.j1 k bt108.1 bt110.1 true x102000 x102001 x102002 x102003 x102004 x102005 x103000 x103001 x103002 x103003 x103004 x103005))))
def armadalaw11_EditOrder.j1 : Nat → ByteArray → ByteArray → Bool → ByteArray → Int → Int → Int → ByteArray → ByteArray → ByteArray → Int → Int → Int → ByteArray → ByteArray → Option (Bool)
 | 0, _, _, _, _, _, _, _, _, _, _, _, _, _, _, _ => none
 | k + 1, x7, x9, x43, x102000, x102001, x102002, x102003, x102004, x102005, x103000, x103001, x103002, x103003, x103004, x103005 => if x43 = true then ((armadalaw11_live.f).bind fun t112 => (some t112)) else ((edit_Set.f x7 x103000 x103001 x103002 x103003 x103004 x103005).bind fun bt113 => ((edit_Set.f x9 x102000 x102001 x102002 x102003 x102004 x102005).bind fun bt115 => (if bt113.2 = 0 then (armadalaw11_EditOrder.j2 k x7 x9 bt113.1 bt115.1 (bt115.2 != 0) x102000 x102001 x102002 x102003 x102004 x102005 x103000 x103001 x103002 x103003 x103004 x103005) else (armadalaw11_EditOrder.j2 k x7 x9 bt113.1 bt115.1 true x102000 x102001 x102002 x102003 x102004 x102005 x103000 x103001 x103002 x103003 x103004 x103005))))
def armadalaw11_EditOrder.j2 : Nat → ByteArray → ByteArray → ByteArray → ByteArray → Bool → ByteArray → Int → Int → Int → ByteArray → ByteArray → ByteArray → Int → Int → Int → ByteArray → ByteArray → Option (Bool)
 | 0, _, _, _, _, _, _, _, _, _, _, _, _, _, _, _, _, _ => none
 | k + 1, x7, x9, x11, x13, x62, x102000, x102001, x102002, x102003, x102004, x102005, x103000, x103001, x103002, x103003, x103004, x103005 => if x62 = true then (some false) else (if x102000.toList = x103000.toList then (if x11.toList = x9.toList then (if x13.toList = x7.toList then ((armadalaw11_live.f).bind fun t117 => (some t117)) else (some false)) else (some false)) else (if x11.toList = x13.toList then ((armadalaw11_live.f).bind fun t118 => (some t118)) else (some false)))
end
def armadalaw11_EditOrder.f (k : Nat) (a0 : ByteArray) (a1_0 : ByteArray) (a1_1 : Int) (a1_2 : Int) (a1_3 : Int) (a1_4 : ByteArray) (a1_5 : ByteArray) (a2_0 : ByteArray) (a2_1 : Int) (a2_2 : Int) (a2_3 : Int) (a2_4 : ByteArray) (a2_5 : ByteArray) : Option (Bool) := if (a0.size : Int) > 3000 then (armadalaw11_EditOrder.j0 k a0 true a1_0 a1_1 a1_2 a1_3 a1_4 a1_5 a2_0 a2_1 a2_2 a2_3 a2_4 a2_5) else ((armadalaw11_few.f k (([(⟨a1_0, (⟨a1_1, a1_2, a1_3, a1_4, a1_5⟩ : S23)⟩ : S25), (⟨a2_0, (⟨a2_1, a2_2, a2_3, a2_4, a2_5⟩ : S23)⟩ : S25)] : List (S25)))).bind fun t106 => (armadalaw11_EditOrder.j0 k a0 (!t106) a1_0 a1_1 a1_2 a1_3 a1_4 a1_5 a2_0 a2_1 a2_2 a2_3 a2_4 a2_5))
set_option maxHeartbeats 8000000 in
set_option maxRecDepth 100000 in
theorem armadalaw11_EditOrder.calls (k : Nat) (a0 : ByteArray) (a1_0 : ByteArray) (a1_1 : Int) (a1_2 : Int) (a1_3 : Int) (a1_4 : ByteArray) (a1_5 : ByteArray) (a2_0 : ByteArray) (a2_1 : Int) (a2_2 : Int) (a2_3 : Int) (a2_4 : ByteArray) (a2_5 : ByteArray) (r : Bool) (w : World) (hG : GW w) (hT : r = true) (h : armadalaw11_EditOrder.f k a0 a1_0 a1_1 a1_2 a1_3 a1_4 a1_5 a2_0 a2_1 a2_2 a2_3 a2_4 a2_5 = some r) :
  Calls Tryz.prog 5 #[.string a0, .agg #[.string a1_0, .int .i64 a1_1, .int .i64 a1_2, .int .i64 a1_3, .string a1_4, .string a1_5], .agg #[.string a2_0, .int .i64 a2_1, .int .i64 a2_2, .int .i64 a2_3, .string a2_4, .string a2_5]] w fun e w' => e = .returned (.bool r) ∧ Below w.heap.size w w' := by
 have hu25 := Tryz.underlying25; have HGW := Aside0.mk hG; clear hG; have HTRU_ := Aside0.mk hT; clear hT; have HB := Aside0.mk (Below.refl w.heap.size w); have H : (if (a0.size : Int) > 3000 then (armadalaw11_EditOrder.j0 k a0 true a1_0 a1_1 a1_2 a1_3 a1_4 a1_5 a2_0 a2_1 a2_2 a2_3 a2_4 a2_5) else ((armadalaw11_few.f k (([(⟨a1_0, (⟨a1_1, a1_2, a1_3, a1_4, a1_5⟩ : S23)⟩ : S25), (⟨a2_0, (⟨a2_1, a2_2, a2_3, a2_4, a2_5⟩ : S23)⟩ : S25)] : List (S25)))).bind fun t106 => (armadalaw11_EditOrder.j0 k a0 (!t106) a1_0 a1_1 a1_2 a1_3 a1_4 a1_5 a2_0 a2_1 a2_2 a2_3 a2_4 a2_5))) = some r := h; clear h; have HC4 := Aside0.mk H; clear H; go_enter Tryz.func5, Tryz.ntmps5; go_upto_region 1 with (first | ((with_reducible refine gate_dst (N := 4) rfl ?_); (try (refine gate_guard (by rfl) ?_; dsimp only)); refine box_event ?hg (N := 4) ?hd (cs := #[.string a1_0, .int .i64 a1_1, .int .i64 a1_2, .int .i64 a1_3, .string a1_4, .string a1_5]) (t := 25) ?hr ?_; (case hd => rfl); (case hg => rfl); (case hr => first | (go_simp; done) | (go_simp; rfl)); intro gb101 hg w5 hbox hb; have BK101 := Aside0.mk (hbox); have GW101 := Aside0.mk ((by rw [hg]; exact (below_size xB) : w.heap.size ≤ gb101)); have GE101 := Aside0.mk ((by rw [hg]; exact (below_size xB) : w.heap.size ≤ gb101)); replace HB := Aside0.mk (below_step xB hb); clear hb hbox hg) | ((with_reducible refine gate_dst (N := 5) rfl ?_); (try (refine gate_guard (by rfl) ?_; dsimp only)); refine box_event ?hg (N := 5) ?hd (cs := #[.string a2_0, .int .i64 a2_1, .int .i64 a2_2, .int .i64 a2_3, .string a2_4, .string a2_5]) (t := 25) ?hr ?_; (case hd => rfl); (case hg => rfl); (case hr => first | (go_simp; done) | (go_simp; rfl)); intro gb102 hg w6 hbox hb; have GW102 := Aside0.mk ((by rw [hg]; exact (below_size xB) : w.heap.size ≤ gb102)); have GE102 := Aside0.mk ((by rw [hg]; exact (below_size xB) : w.heap.size ≤ gb102)); have NB101_102 := Aside0.mk ((by rw [hg]; exact Nat.ne_of_lt (blk_lt (g := gb101) (o := .cells #[.string a1_0, .int .i64 a1_1, .int .i64 a1_2, .int .i64 a1_3, .string a1_4, .string a1_5] 25 (0, 0)) xK) : gb101 ≠ gb102)); have NB102_101 := Aside0.mk ((by rw [hg]; exact Nat.ne_of_gt (blk_lt (g := gb101) (o := .cells #[.string a1_0, .int .i64 a1_1, .int .i64 a1_2, .int .i64 a1_3, .string a1_4, .string a1_5] 25 (0, 0)) xK) : gb102 ≠ gb101)); replace BK101 := Aside0.mk (blk_below (g := gb101) (o := .cells #[.string a1_0, .int .i64 a1_1, .int .i64 a1_2, .int .i64 a1_3, .string a1_4, .string a1_5] 25 (0, 0)) xK hb); have BK102 := Aside0.mk (hbox); replace HB := Aside0.mk (below_step xB hb); clear hb hbox hg))
 (try simp only [Act.put, z1, z2, z3])
 go_cut [24] (fun v24 wc => ∃ (kq : Nat) (x24_3 : Bool), v24 = .bool x24_3 ∧ Aside0 (armadalaw11_EditOrder.j0 kq a0 x24_3 a1_0 a1_1 a1_2 a1_3 a1_4 a1_5 a2_0 a2_1 a2_2 a2_3 a2_4 a2_5 = some r) ∧ Aside0 (kq ≤ k) ∧ Aside0 (wc.heap[gb101]? = some (.cells #[.string a1_0, .int .i64 a1_1, .int .i64 a1_2, .int .i64 a1_3, .string a1_4, .string a1_5] 25 (0, 0))) ∧ Aside0 (wc.heap[gb102]? = some (.cells #[.string a2_0, .int .i64 a2_1, .int .i64 a2_2, .int .i64 a2_3, .string a2_4, .string a2_5] 25 (0, 0))) ∧ Aside0 (Below w.heap.size w wc))
 case first =>
  have H := HC4.out; clear HC4; replace H := xJ H; rcases H with ⟨c7, H⟩ | ⟨c7, H⟩
  ·
   have c7b0 := decide_eq_true c7; have c7b1 : decide (3000 < a0.size) = true := decide_eq_true (by omega); clear c7
   (first | rw [c7b0] | (simp only [i64_w, i32_w]; rw [c7b0]) | skip)
   have H' := Aside0.mk H; clear H; go_wp2; go_meet
   case rel => exact ⟨_, (true), xR, H', ⟨by first | omega | exact Nat.le_refl _⟩, ⟨by (with_reducible repeat (first | refine blk_drewN ?_ _ | refine blk_drew ?_ | refine blk_alloc ?_ _)); exact BK101.out⟩, ⟨by (with_reducible repeat (first | refine blk_drewN ?_ _ | refine blk_drew ?_ | refine blk_alloc ?_ _)); exact BK102.out⟩, ⟨xB⟩⟩
  have c7b0 := decide_eq_false c7; have c7b1 : decide (3000 < a0.size) = false := decide_eq_false (by omega); clear c7
  (first | rw [c7b0] | (simp only [i64_w, i32_w]; rw [c7b0]) | skip)
  obtain ⟨y103, hy103⟩ : ∃ y_ : List (S25), y_ = (([(⟨a1_0, (⟨a1_1, a1_2, a1_3, a1_4, a1_5⟩ : S23)⟩ : S25), (⟨a2_0, (⟨a2_1, a2_2, a2_3, a2_4, a2_5⟩ : S23)⟩ : S25)] : List (S25))) := ⟨_, rfl⟩
  replace H : ((armadalaw11_few.f k y103).bind fun t106 => (armadalaw11_EditOrder.j0 k a0 (!t106) a1_0 a1_1 a1_2 a1_3 a1_4 a1_5 a2_0 a2_1 a2_2 a2_3 a2_4 a2_5)) = some r := by first | (rw [hy103]; with_reducible exact H) | (have H2_ := (Option.bind_some _ _).symm.trans H; rw [hy103]; with_reducible exact H2_) | (have H2_ := (Option.bind_some _ _).symm.trans H; with_reducible exact H2_) | with_reducible exact H | (rw [hy103]; exact H) | exact H
  have Ny103 := Aside0.mk hy103; clear hy103; replace H := xb H; obtain ⟨t106, A8, H⟩ := H; have H' := Aside0.mk H; clear H; have hnb9 := NB101_102.out; have hnc9 := NB102_101.out; obtain ⟨hcz10_0, hcz10_1, hcz10_2, hcz10_3, hcz10_4, hcz10_5⟩ := xC6 BK101.out; obtain ⟨hfz10_0, hfz10_1, hfz10_2, hfz10_3, hfz10_4, hfz10_5⟩ := xF6 BK101.out; obtain ⟨hcz11_0, hcz11_1, hcz11_2, hcz11_3, hcz11_4, hcz11_5⟩ := xC6 BK102.out; obtain ⟨hfz11_0, hfz11_1, hfz11_2, hfz11_3, hfz11_4, hfz11_5⟩ := xF6 BK102.out; go_wp2_with (first | ((with_reducible refine gate_dst (N := 21) rfl ?_); (try (refine gate_guard (by rfl) ?_; dsimp only)); refine Kd.R_lit k25 _ 25 ?hg (N := 21) ?hd (xs := ([(⟨a1_0, (⟨a1_1, a1_2, a1_3, a1_4, a1_5⟩ : S23)⟩ : S25), (⟨a2_0, (⟨a2_1, a2_2, a2_3, a2_4, a2_5⟩ : S23)⟩ : S25)] : List (S25))) (inner := [.string a1_0, .int .i64 a1_1, .int .i64 a1_2, .int .i64 a1_3, .string a1_4, .string a1_5, .string a2_0, .int .i64 a2_1, .int .i64 a2_2, .int .i64 a2_3, .string a2_4, .string a2_5]) (ok := fun _ => True) (okp := fun _ => True) ?hr ?hp (fun _ hk => hk) trivial (Below.refl _ _) (Nat.le_refl _) (by simp) ?_; (case hd => rfl); (case hg => rfl); (case hr => first | (go_simp; done) | (go_simp; rfl)); (case hp => exact (Reps.c6 (show Kd.M k25 _ _ _ (⟨a1_0, (⟨a1_1, a1_2, a1_3, a1_4, a1_5⟩ : S23)⟩ : S25) [.string a1_0, .int .i64 a1_1, .int .i64 a1_2, .int .i64 a1_3, .string a1_4, .string a1_5] from (k25_mkM _ _ _ (⟨a1_0, (⟨a1_1, a1_2, a1_3, a1_4, a1_5⟩ : S23)⟩ : S25) )) (Reps.c6 (show Kd.M k25 _ _ _ (⟨a2_0, (⟨a2_1, a2_2, a2_3, a2_4, a2_5⟩ : S23)⟩ : S25) [.string a2_0, .int .i64 a2_1, .int .i64 a2_2, .int .i64 a2_3, .string a2_4, .string a2_5] from (k25_mkM _ _ _ (⟨a2_0, (⟨a2_1, a2_2, a2_3, a2_4, a2_5⟩ : S23)⟩ : S25) )) (Reps.none _ _)))); intro v104 w12 ho13 hb hg_ hnew_; clear hg_ hnew_; (first | rw [← Ny103.out] at ho13 | (simp only [Int.reduceToNat] at ho13; rw [← Ny103.out] at ho13)); have n0_ := Aside0.mk (Kd.R_lower (Kd.R_newB (Kd.R_newB ho13 (g := gb101) (o := .cells #[.string a1_0, .int .i64 a1_1, .int .i64 a1_2, .int .i64 a1_3, .string a1_4, .string a1_5] 25 (0, 0)) xK) (g := gb102) (o := .cells #[.string a2_0, .int .i64 a2_1, .int .i64 a2_2, .int .i64 a2_3, .string a2_4, .string a2_5] 25 (0, 0)) xK) (below_size xB)); have n1_ := Aside0.mk (blk_below (g := gb101) (o := .cells #[.string a1_0, .int .i64 a1_1, .int .i64 a1_2, .int .i64 a1_3, .string a1_4, .string a1_5] 25 (0, 0)) xK hb); have n2_ := Aside0.mk (blk_below (g := gb102) (o := .cells #[.string a2_0, .int .i64 a2_1, .int .i64 a2_2, .int .i64 a2_3, .string a2_4, .string a2_5] 25 (0, 0)) xK hb); have n3_ := Aside0.mk (below_step xB hb); clear BK101; clear BK102; clear HB; have HO105 := n0_; have BK101 := n1_; have BK102 := n2_; have HB := n3_; clear n0_ n1_ n2_ n3_; clear hb ho13; obtain ⟨Ao14, co14, eo14⟩ := Kd.R_slice HO105.out; subst eo14) | (go_at_call 12; (with_reducible refine (armadalaw11_few.calls k _ _ y103 t106 _ ?side1 ?side2 A8.out).mono ?_); (case side1 => repeat (first | exact (Kd.R_reads' HO105.out).2.2 | (with_reducible refine Kd.C_alloc ?_ _) | (with_reducible refine Kd.C_drewN ?_ _) | (with_reducible refine Kd.C_drew ?_))); (case side2 => exact (Kd.R_reads' HO105.out).2.1); rintro e w' ⟨rfl, ⟨nd, rfl⟩⟩)); go_meet
  case rel => exact ⟨_, (!t106), xR, H', ⟨by first | omega | exact Nat.le_refl _⟩, ⟨by (with_reducible repeat (first | refine blk_drewN ?_ _ | refine blk_drew ?_ | refine blk_alloc ?_ _)); exact BK101.out⟩, ⟨by (with_reducible repeat (first | refine blk_drewN ?_ _ | refine blk_drew ?_ | refine blk_alloc ?_ _)); exact BK102.out⟩, ⟨xB⟩⟩
 case rest =>
  clear HC4
  try clear p2
  try clear c5
  try clear c6
  try clear c7
  try clear c7b0
  try clear c7b1
  try clear c9
  try clear hcz10_0
  try clear hcz10_1
  try clear hcz10_2
  try clear hcz10_3
  try clear hcz10_4
  try clear hcz10_5
  try clear hcz11_0
  try clear hcz11_1
  try clear hcz11_2
  try clear hcz11_3
  try clear hcz11_4
  try clear hcz11_5
  try clear hfz10_0
  try clear hfz10_1
  try clear hfz10_2
  try clear hfz10_3
  try clear hfz10_4
  try clear hfz10_5
  try clear hfz11_0
  try clear hfz11_1
  try clear hfz11_2
  try clear hfz11_3
  try clear hfz11_4
  try clear hfz11_5
  obtain ⟨kq, x24_3, rfl, HA, HJ3, BK101, BK102, HB⟩ := hcut
  cases kq with
  | zero => exact absurd HA.out (by simp [armadalaw11_EditOrder.j0])
  | succ kj3 =>
   have H := HA.out; clear HA; simp only [armadalaw11_EditOrder.j0] at H
   by_cases c15 : x24_3 = true
   ·
    subst c15; rw [if_pos rfl] at H; replace H := xb H; obtain ⟨t107, A16, H⟩ := H; obtain rfl := Option.some.inj H; go_wp2_with (first | ((with_reducible refine gate_callee (f := 13) rfl ?_); refine goesL_ (some 25) rfl rfl Tryz.func13 (by kernel_rfl) rfl #[] rfl xS ?_; (with_reducible refine (armadalaw11_live.calls  t107 _ ?side1 ?side2 A16.out).mono ?_); (case side1 => exact GW.below HGW.out xB); (case side2 => exact HTRU_.out); rintro e w17 ⟨rfl, hb⟩; refine ⟨_, rfl, ?_⟩; have n0_ := Aside0.mk (blk_below (g := gb101) (o := .cells #[.string a1_0, .int .i64 a1_1, .int .i64 a1_2, .int .i64 a1_3, .string a1_4, .string a1_5] 25 (0, 0)) xK hb); have n1_ := Aside0.mk (blk_below (g := gb102) (o := .cells #[.string a2_0, .int .i64 a2_1, .int .i64 a2_2, .int .i64 a2_3, .string a2_4, .string a2_5] 25 (0, 0)) xK hb); have n2_ := Aside0.mk (below_step xB hb); clear BK101; clear BK102; clear HB; have BK101 := n0_; have BK102 := n1_; have HB := n2_; clear n0_ n1_ n2_; (try clear hb))); go_ret; exact ⟨xW, xB⟩
   replace c15 := Bool.eq_false_iff.mpr c15; subst c15; rw [if_neg (show ¬ (false = true) by decide)] at H; replace H := Option.bind_eq_some_iff.mp H; obtain ⟨⟨t108, t109⟩, A180, H⟩ := H; replace H : ((edit_Set.f a0 a2_0 a2_1 a2_2 a2_3 a2_4 a2_5).bind fun bt110 => (if t109 = 0 then (armadalaw11_EditOrder.j1 kj3 t108 bt110.1 (bt110.2 != 0) a1_0 a1_1 a1_2 a1_3 a1_4 a1_5 a2_0 a2_1 a2_2 a2_3 a2_4 a2_5) else (armadalaw11_EditOrder.j1 kj3 t108 bt110.1 true a1_0 a1_1 a1_2 a1_3 a1_4 a1_5 a2_0 a2_1 a2_2 a2_3 a2_4 a2_5))) = some r := H; have A18 := Aside0.mk A180; clear A180; replace H := Option.bind_eq_some_iff.mp H; obtain ⟨⟨t110, t111⟩, A190, H⟩ := H; replace H : (if t109 = 0 then (armadalaw11_EditOrder.j1 kj3 t108 t110 (t111 != 0) a1_0 a1_1 a1_2 a1_3 a1_4 a1_5 a2_0 a2_1 a2_2 a2_3 a2_4 a2_5) else (armadalaw11_EditOrder.j1 kj3 t108 t110 true a1_0 a1_1 a1_2 a1_3 a1_4 a1_5 a2_0 a2_1 a2_2 a2_3 a2_4 a2_5)) = some r := H; have A19 := Aside0.mk A190; clear A190; have HC20 := Aside0.mk H; clear H; have hnb21 := NB101_102.out; have hnc21 := NB102_101.out; obtain ⟨hcz22_0, hcz22_1, hcz22_2, hcz22_3, hcz22_4, hcz22_5⟩ := xC6 BK101.out; obtain ⟨hfz22_0, hfz22_1, hfz22_2, hfz22_3, hfz22_4, hfz22_5⟩ := xF6 BK101.out; go_upto_region 5 with (first | ((with_reducible refine gate_callee (f := 14) rfl ?_); refine goesL_ (some 29) rfl rfl Tryz.func14 (by kernel_rfl) rfl #[.string a0, .agg #[.string a1_0, .int .i64 a1_1, .int .i64 a1_2, .int .i64 a1_3, .string a1_4, .string a1_5]] rfl xS ?_; (with_reducible refine (edit_Set.calls a0 a1_0 a1_1 a1_2 a1_3 a1_4 a1_5 t108 t109 _ ?side1 A18.out).mono ?_); (case side1 => exact GW.below HGW.out xB); rintro e w23 ⟨rfl, hb⟩; refine ⟨_, rfl, ?_⟩; have n0_ := Aside0.mk (blk_below (g := gb101) (o := .cells #[.string a1_0, .int .i64 a1_1, .int .i64 a1_2, .int .i64 a1_3, .string a1_4, .string a1_5] 25 (0, 0)) xK hb); have n1_ := Aside0.mk (blk_below (g := gb102) (o := .cells #[.string a2_0, .int .i64 a2_1, .int .i64 a2_2, .int .i64 a2_3, .string a2_4, .string a2_5] 25 (0, 0)) xK hb); have n2_ := Aside0.mk (below_step xB hb); clear BK101; clear BK102; clear HB; have BK101 := n0_; have BK102 := n1_; have HB := n2_; clear n0_ n1_ n2_; (try clear hb); obtain ⟨hcz24_0, hcz24_1, hcz24_2, hcz24_3, hcz24_4, hcz24_5⟩ := xC6 BK102.out; obtain ⟨hfz24_0, hfz24_1, hfz24_2, hfz24_3, hfz24_4, hfz24_5⟩ := xF6 BK102.out) | ((with_reducible refine gate_callee (f := 14) rfl ?_); refine goesL_ (some 35) rfl rfl Tryz.func14 (by kernel_rfl) rfl #[.string a0, .agg #[.string a2_0, .int .i64 a2_1, .int .i64 a2_2, .int .i64 a2_3, .string a2_4, .string a2_5]] rfl xS ?_; (with_reducible refine (edit_Set.calls a0 a2_0 a2_1 a2_2 a2_3 a2_4 a2_5 t110 t111 _ ?side1 A19.out).mono ?_); (case side1 => exact GW.below HGW.out xB); rintro e w25 ⟨rfl, hb⟩; refine ⟨_, rfl, ?_⟩; have n0_ := Aside0.mk (blk_below (g := gb101) (o := .cells #[.string a1_0, .int .i64 a1_1, .int .i64 a1_2, .int .i64 a1_3, .string a1_4, .string a1_5] 25 (0, 0)) xK hb); have n1_ := Aside0.mk (blk_below (g := gb102) (o := .cells #[.string a2_0, .int .i64 a2_1, .int .i64 a2_2, .int .i64 a2_3, .string a2_4, .string a2_5] 25 (0, 0)) xK hb); have n2_ := Aside0.mk (below_step xB hb); clear BK101; clear BK102; clear HB; have BK101 := n0_; have BK102 := n1_; have HB := n2_; clear n0_ n1_ n2_; (try clear hb)))
   (try simp only [Act.put, z1, z2, z3])
   go_cut [43] (fun v43 wc => ∃ (kq : Nat) (x43_19 : Bool), v43 = .bool x43_19 ∧ Aside0 (armadalaw11_EditOrder.j1 kq t108 t110 x43_19 a1_0 a1_1 a1_2 a1_3 a1_4 a1_5 a2_0 a2_1 a2_2 a2_3 a2_4 a2_5 = some r) ∧ Aside0 (kq ≤ kj3) ∧ Aside0 (wc.heap[gb101]? = some (.cells #[.string a1_0, .int .i64 a1_1, .int .i64 a1_2, .int .i64 a1_3, .string a1_4, .string a1_5] 25 (0, 0))) ∧ Aside0 (wc.heap[gb102]? = some (.cells #[.string a2_0, .int .i64 a2_1, .int .i64 a2_2, .int .i64 a2_3, .string a2_4, .string a2_5] 25 (0, 0))) ∧ Aside0 (Below w.heap.size w wc))
   case first =>
    have H := HC20.out; clear HC20; replace H := xJ H; rcases H with ⟨c26, H⟩ | ⟨c26, H⟩
    ·
     have c26b0 := beq_iff_eq.mpr c26; have c26b1 := bne_eq_false_iff_eq.mpr c26; clear c26
     (first | rw [c26b0] | (simp only [i64_w, i32_w]; rw [c26b0]) | skip)
     have H' := Aside0.mk H; clear H; go_wp2; go_meet
     case rel => exact ⟨_, ((t111 != 0)), xR, H', ⟨by have := HJ3.out; first | omega | exact Nat.le_refl _⟩, ⟨by (with_reducible repeat (first | refine blk_drewN ?_ _ | refine blk_drew ?_ | refine blk_alloc ?_ _)); exact BK101.out⟩, ⟨by (with_reducible repeat (first | refine blk_drewN ?_ _ | refine blk_drew ?_ | refine blk_alloc ?_ _)); exact BK102.out⟩, ⟨xB⟩⟩
    have c26b0 := beq_eq_false_iff_ne.mpr c26; have c26b1 := bne_iff_ne.mpr c26
    (first | rw [c26b0] | (simp only [i64_w, i32_w]; rw [c26b0]) | skip)
    have H' := Aside0.mk H; clear H; go_wp2; go_meet
    case rel => exact ⟨_, (true), xR, H', ⟨by have := HJ3.out; first | omega | exact Nat.le_refl _⟩, ⟨by (with_reducible repeat (first | refine blk_drewN ?_ _ | refine blk_drew ?_ | refine blk_alloc ?_ _)); exact BK101.out⟩, ⟨by (with_reducible repeat (first | refine blk_drewN ?_ _ | refine blk_drew ?_ | refine blk_alloc ?_ _)); exact BK102.out⟩, ⟨xB⟩⟩
   case rest =>
    clear HC20
    try clear c1
    try clear c2
    try clear p2
    try clear c5
    try clear c6
    try clear c7
    try clear c7b0
    try clear c7b1
    try clear c9
    try clear c13
    try clear c14
    try clear c15
    try clear c21
    try clear c26
    try clear c26b0
    try clear c26b1
    try clear hcz10_0
    try clear hcz10_1
    try clear hcz10_2
    try clear hcz10_3
    try clear hcz10_4
    try clear hcz10_5
    try clear hcz11_0
    try clear hcz11_1
    try clear hcz11_2
    try clear hcz11_3
    try clear hcz11_4
    try clear hcz11_5
    try clear hcz22_0
    try clear hcz22_1
    try clear hcz22_2
    try clear hcz22_3
    try clear hcz22_4
    try clear hcz22_5
    try clear hcz24_0
    try clear hcz24_1
    try clear hcz24_2
    try clear hcz24_3
    try clear hcz24_4
    try clear hcz24_5
    try clear hfz10_0
    try clear hfz10_1
    try clear hfz10_2
    try clear hfz10_3
    try clear hfz10_4
    try clear hfz10_5
    try clear hfz11_0
    try clear hfz11_1
    try clear hfz11_2
    try clear hfz11_3
    try clear hfz11_4
    try clear hfz11_5
    try clear hfz22_0
    try clear hfz22_1
    try clear hfz22_2
    try clear hfz22_3
    try clear hfz22_4
    try clear hfz22_5
    try clear hfz24_0
    try clear hfz24_1
    try clear hfz24_2
    try clear hfz24_3
    try clear hfz24_4
    try clear hfz24_5
    try clear p2
    obtain ⟨kq, x43_19, rfl, HA, HJ19, BK101, BK102, HB⟩ := hcut
    cases kq with
    | zero => exact absurd HA.out (by simp [armadalaw11_EditOrder.j1])
    | succ kj19 =>
     have H := HA.out; clear HA; simp only [armadalaw11_EditOrder.j1] at H
     by_cases c27 : x43_19 = true
     ·
      subst c27; rw [if_pos rfl] at H; replace H := xb H; obtain ⟨t112, A28, H⟩ := H; obtain rfl := Option.some.inj H; go_wp2_with (first | ((with_reducible refine gate_callee (f := 13) rfl ?_); refine goesL_ (some 44) rfl rfl Tryz.func13 (by kernel_rfl) rfl #[] rfl xS ?_; (with_reducible refine (armadalaw11_live.calls  t112 _ ?side1 ?side2 A28.out).mono ?_); (case side1 => exact GW.below HGW.out xB); (case side2 => exact HTRU_.out); rintro e w29 ⟨rfl, hb⟩; refine ⟨_, rfl, ?_⟩; have n0_ := Aside0.mk (blk_below (g := gb101) (o := .cells #[.string a1_0, .int .i64 a1_1, .int .i64 a1_2, .int .i64 a1_3, .string a1_4, .string a1_5] 25 (0, 0)) xK hb); have n1_ := Aside0.mk (blk_below (g := gb102) (o := .cells #[.string a2_0, .int .i64 a2_1, .int .i64 a2_2, .int .i64 a2_3, .string a2_4, .string a2_5] 25 (0, 0)) xK hb); have n2_ := Aside0.mk (below_step xB hb); clear BK101; clear BK102; clear HB; have BK101 := n0_; have BK102 := n1_; have HB := n2_; clear n0_ n1_ n2_; (try clear hb))); go_ret; exact ⟨xW, xB⟩
     replace c27 := Bool.eq_false_iff.mpr c27; subst c27; rw [if_neg (show ¬ (false = true) by decide)] at H; replace H := Option.bind_eq_some_iff.mp H; obtain ⟨⟨t113, t114⟩, A300, H⟩ := H; replace H : ((edit_Set.f t110 a1_0 a1_1 a1_2 a1_3 a1_4 a1_5).bind fun bt115 => (if t114 = 0 then (armadalaw11_EditOrder.j2 kj19 t108 t110 t113 bt115.1 (bt115.2 != 0) a1_0 a1_1 a1_2 a1_3 a1_4 a1_5 a2_0 a2_1 a2_2 a2_3 a2_4 a2_5) else (armadalaw11_EditOrder.j2 kj19 t108 t110 t113 bt115.1 true a1_0 a1_1 a1_2 a1_3 a1_4 a1_5 a2_0 a2_1 a2_2 a2_3 a2_4 a2_5))) = some r := H; have A30 := Aside0.mk A300; clear A300; replace H := Option.bind_eq_some_iff.mp H; obtain ⟨⟨t115, t116⟩, A310, H⟩ := H; replace H : (if t114 = 0 then (armadalaw11_EditOrder.j2 kj19 t108 t110 t113 t115 (t116 != 0) a1_0 a1_1 a1_2 a1_3 a1_4 a1_5 a2_0 a2_1 a2_2 a2_3 a2_4 a2_5) else (armadalaw11_EditOrder.j2 kj19 t108 t110 t113 t115 true a1_0 a1_1 a1_2 a1_3 a1_4 a1_5 a2_0 a2_1 a2_2 a2_3 a2_4 a2_5)) = some r := H; have A31 := Aside0.mk A310; clear A310; have HC32 := Aside0.mk H; clear H; have hnb33 := NB102_101.out; have hnc33 := NB101_102.out; obtain ⟨hcz34_0, hcz34_1, hcz34_2, hcz34_3, hcz34_4, hcz34_5⟩ := xC6 BK102.out; obtain ⟨hfz34_0, hfz34_1, hfz34_2, hfz34_3, hfz34_4, hfz34_5⟩ := xF6 BK102.out; go_upto_region 9 with (first | ((with_reducible refine gate_callee (f := 14) rfl ?_); refine goesL_ (some 48) rfl rfl Tryz.func14 (by kernel_rfl) rfl #[.string t108, .agg #[.string a2_0, .int .i64 a2_1, .int .i64 a2_2, .int .i64 a2_3, .string a2_4, .string a2_5]] rfl xS ?_; (with_reducible refine (edit_Set.calls t108 a2_0 a2_1 a2_2 a2_3 a2_4 a2_5 t113 t114 _ ?side1 A30.out).mono ?_); (case side1 => exact GW.below HGW.out xB); rintro e w35 ⟨rfl, hb⟩; refine ⟨_, rfl, ?_⟩; have n0_ := Aside0.mk (blk_below (g := gb101) (o := .cells #[.string a1_0, .int .i64 a1_1, .int .i64 a1_2, .int .i64 a1_3, .string a1_4, .string a1_5] 25 (0, 0)) xK hb); have n1_ := Aside0.mk (blk_below (g := gb102) (o := .cells #[.string a2_0, .int .i64 a2_1, .int .i64 a2_2, .int .i64 a2_3, .string a2_4, .string a2_5] 25 (0, 0)) xK hb); have n2_ := Aside0.mk (below_step xB hb); clear BK101; clear BK102; clear HB; have BK101 := n0_; have BK102 := n1_; have HB := n2_; clear n0_ n1_ n2_; (try clear hb); obtain ⟨hcz36_0, hcz36_1, hcz36_2, hcz36_3, hcz36_4, hcz36_5⟩ := xC6 BK101.out; obtain ⟨hfz36_0, hfz36_1, hfz36_2, hfz36_3, hfz36_4, hfz36_5⟩ := xF6 BK101.out) | ((with_reducible refine gate_callee (f := 14) rfl ?_); refine goesL_ (some 54) rfl rfl Tryz.func14 (by kernel_rfl) rfl #[.string t110, .agg #[.string a1_0, .int .i64 a1_1, .int .i64 a1_2, .int .i64 a1_3, .string a1_4, .string a1_5]] rfl xS ?_; (with_reducible refine (edit_Set.calls t110 a1_0 a1_1 a1_2 a1_3 a1_4 a1_5 t115 t116 _ ?side1 A31.out).mono ?_); (case side1 => exact GW.below HGW.out xB); rintro e w37 ⟨rfl, hb⟩; refine ⟨_, rfl, ?_⟩; have n0_ := Aside0.mk (blk_below (g := gb101) (o := .cells #[.string a1_0, .int .i64 a1_1, .int .i64 a1_2, .int .i64 a1_3, .string a1_4, .string a1_5] 25 (0, 0)) xK hb); have n1_ := Aside0.mk (blk_below (g := gb102) (o := .cells #[.string a2_0, .int .i64 a2_1, .int .i64 a2_2, .int .i64 a2_3, .string a2_4, .string a2_5] 25 (0, 0)) xK hb); have n2_ := Aside0.mk (below_step xB hb); clear BK101; clear BK102; clear HB; have BK101 := n0_; have BK102 := n1_; have HB := n2_; clear n0_ n1_ n2_; (try clear hb)))
     (try simp only [Act.put, z1, z2, z3])
     go_cut [62] (fun v62 wc => ∃ (kq : Nat) (x62_31 : Bool), v62 = .bool x62_31 ∧ Aside0 (armadalaw11_EditOrder.j2 kq t108 t110 t113 t115 x62_31 a1_0 a1_1 a1_2 a1_3 a1_4 a1_5 a2_0 a2_1 a2_2 a2_3 a2_4 a2_5 = some r) ∧ Aside0 (kq ≤ kj19) ∧ Aside0 (wc.heap[gb101]? = some (.cells #[.string a1_0, .int .i64 a1_1, .int .i64 a1_2, .int .i64 a1_3, .string a1_4, .string a1_5] 25 (0, 0))) ∧ Aside0 (wc.heap[gb102]? = some (.cells #[.string a2_0, .int .i64 a2_1, .int .i64 a2_2, .int .i64 a2_3, .string a2_4, .string a2_5] 25 (0, 0))) ∧ Aside0 (Below w.heap.size w wc))
     case first =>
      have H := HC32.out; clear HC32; replace H := xJ H; rcases H with ⟨c38, H⟩ | ⟨c38, H⟩
      ·
       have c38b0 := beq_iff_eq.mpr c38; have c38b1 := bne_eq_false_iff_eq.mpr c38; clear c38
       (first | rw [c38b0] | (simp only [i64_w, i32_w]; rw [c38b0]) | skip)
       have H' := Aside0.mk H; clear H; go_wp2; go_meet
       case rel => exact ⟨_, ((t116 != 0)), xR, H', ⟨by have := HJ3.out; have := HJ19.out; first | omega | exact Nat.le_refl _⟩, ⟨by (with_reducible repeat (first | refine blk_drewN ?_ _ | refine blk_drew ?_ | refine blk_alloc ?_ _)); exact BK101.out⟩, ⟨by (with_reducible repeat (first | refine blk_drewN ?_ _ | refine blk_drew ?_ | refine blk_alloc ?_ _)); exact BK102.out⟩, ⟨xB⟩⟩
      have c38b0 := beq_eq_false_iff_ne.mpr c38; have c38b1 := bne_iff_ne.mpr c38
      (first | rw [c38b0] | (simp only [i64_w, i32_w]; rw [c38b0]) | skip)
      have H' := Aside0.mk H; clear H; go_wp2; go_meet
      case rel => exact ⟨_, (true), xR, H', ⟨by have := HJ3.out; have := HJ19.out; first | omega | exact Nat.le_refl _⟩, ⟨by (with_reducible repeat (first | refine blk_drewN ?_ _ | refine blk_drew ?_ | refine blk_alloc ?_ _)); exact BK101.out⟩, ⟨by (with_reducible repeat (first | refine blk_drewN ?_ _ | refine blk_drew ?_ | refine blk_alloc ?_ _)); exact BK102.out⟩, ⟨xB⟩⟩
     case rest =>
      clear HC32
      try clear c1
      try clear c2
      try clear p2
      try clear c3
      try clear c5
      try clear c6
      try clear c7
      try clear c7b0
      try clear c7b1
      try clear c9
      try clear c13
      try clear c14
      try clear c15
      try clear c21
      try clear c26
      try clear c26b0
      try clear c26b1
      try clear c27
      try clear c33
      try clear c38
      try clear c38b0
      try clear c38b1
      try clear hcz10_0
      try clear hcz10_1
      try clear hcz10_2
      try clear hcz10_3
      try clear hcz10_4
      try clear hcz10_5
      try clear hcz11_0
      try clear hcz11_1
      try clear hcz11_2
      try clear hcz11_3
      try clear hcz11_4
      try clear hcz11_5
      try clear hcz22_0
      try clear hcz22_1
      try clear hcz22_2
      try clear hcz22_3
      try clear hcz22_4
      try clear hcz22_5
      try clear hcz24_0
      try clear hcz24_1
      try clear hcz24_2
      try clear hcz24_3
      try clear hcz24_4
      try clear hcz24_5
      try clear hcz34_0
      try clear hcz34_1
      try clear hcz34_2
      try clear hcz34_3
      try clear hcz34_4
      try clear hcz34_5
      try clear hcz36_0
      try clear hcz36_1
      try clear hcz36_2
      try clear hcz36_3
      try clear hcz36_4
      try clear hcz36_5
      try clear hfz10_0
      try clear hfz10_1
      try clear hfz10_2
      try clear hfz10_3
      try clear hfz10_4
      try clear hfz10_5
      try clear hfz11_0
      try clear hfz11_1
      try clear hfz11_2
      try clear hfz11_3
      try clear hfz11_4
      try clear hfz11_5
      try clear hfz22_0
      try clear hfz22_1
      try clear hfz22_2
      try clear hfz22_3
      try clear hfz22_4
      try clear hfz22_5
      try clear hfz24_0
      try clear hfz24_1
      try clear hfz24_2
      try clear hfz24_3
      try clear hfz24_4
      try clear hfz24_5
      try clear hfz34_0
      try clear hfz34_1
      try clear hfz34_2
      try clear hfz34_3
      try clear hfz34_4
      try clear hfz34_5
      try clear hfz36_0
      try clear hfz36_1
      try clear hfz36_2
      try clear hfz36_3
      try clear hfz36_4
      try clear hfz36_5
      try clear p2
      obtain ⟨kq, x62_31, rfl, HA, HJ31, BK101, BK102, HB⟩ := hcut
      cases kq with
      | zero => exact absurd HA.out (by simp [armadalaw11_EditOrder.j2])
      | succ kj31 =>
       have H := HA.out; clear HA; simp only [armadalaw11_EditOrder.j2] at H
       by_cases c39 : x62_31 = true
       ·
        subst c39; rw [if_pos rfl] at H; exact absurd ((Option.some.inj H).trans HTRU_.out) (by decide)
       replace c39 := Bool.eq_false_iff.mpr c39; subst c39; rw [if_neg (show ¬ (false = true) by decide)] at H; replace H := xJ H; rcases H with ⟨c40, H⟩ | ⟨c40, H⟩
       ·
        have c40b0 := beq_iff_eq.mpr c40; have c40b1 := bne_eq_false_iff_eq.mpr c40; clear c40; replace H := xJ H; rcases H with ⟨c41, H⟩ | ⟨c41, H⟩
        ·
         have c41b0 := beq_iff_eq.mpr c41; have c41b1 := bne_eq_false_iff_eq.mpr c41; clear c41; replace H := xJ H; rcases H with ⟨c42, H⟩ | ⟨c42, H⟩
         ·
          have c42b0 := beq_iff_eq.mpr c42; have c42b1 := bne_eq_false_iff_eq.mpr c42; clear c42; replace H := xb H; obtain ⟨t117, A43, H⟩ := H; obtain rfl := Option.some.inj H; have hnb44 := NB101_102.out; have hnc44 := NB102_101.out; obtain ⟨hcz45_0, hcz45_1, hcz45_2, hcz45_3, hcz45_4, hcz45_5⟩ := xC6 BK101.out; obtain ⟨hfz45_0, hfz45_1, hfz45_2, hfz45_3, hfz45_4, hfz45_5⟩ := xF6 BK101.out; obtain ⟨hcz46_0, hcz46_1, hcz46_2, hcz46_3, hcz46_4, hcz46_5⟩ := xC6 BK102.out; obtain ⟨hfz46_0, hfz46_1, hfz46_2, hfz46_3, hfz46_4, hfz46_5⟩ := xF6 BK102.out; go_wp2_with (first | (go_at_call 13; (with_reducible refine (armadalaw11_live.calls  t117 _ ?side1 ?side2 A43.out).mono ?_); (case side1 => exact GW.below HGW.out xB); (case side2 => exact HTRU_.out); rintro e w47 ⟨rfl, hb⟩; have n0_ := Aside0.mk (blk_below (g := gb101) (o := .cells #[.string a1_0, .int .i64 a1_1, .int .i64 a1_2, .int .i64 a1_3, .string a1_4, .string a1_5] 25 (0, 0)) xK hb); have n1_ := Aside0.mk (blk_below (g := gb102) (o := .cells #[.string a2_0, .int .i64 a2_1, .int .i64 a2_2, .int .i64 a2_3, .string a2_4, .string a2_5] 25 (0, 0)) xK hb); have n2_ := Aside0.mk (below_step xB hb); clear BK101; clear BK102; clear HB; have BK101 := n0_; have BK102 := n1_; have HB := n2_; clear n0_ n1_ n2_; (try clear hb))); go_ret; exact ⟨xW, xB⟩
         have c42b0 := beq_eq_false_iff_ne.mpr c42; have c42b1 := bne_iff_ne.mpr c42; exact absurd ((Option.some.inj H).trans HTRU_.out) (by decide)
        have c41b0 := beq_eq_false_iff_ne.mpr c41; have c41b1 := bne_iff_ne.mpr c41; exact absurd ((Option.some.inj H).trans HTRU_.out) (by decide)
       have c40b0 := beq_eq_false_iff_ne.mpr c40; have c40b1 := bne_iff_ne.mpr c40; replace H := xJ H; rcases H with ⟨c48, H⟩ | ⟨c48, H⟩
       ·
        have c48b0 := beq_iff_eq.mpr c48; have c48b1 := bne_eq_false_iff_eq.mpr c48; clear c48; replace H := xb H; obtain ⟨t118, A49, H⟩ := H; obtain rfl := Option.some.inj H; have hnb50 := NB101_102.out; have hnc50 := NB102_101.out; obtain ⟨hcz51_0, hcz51_1, hcz51_2, hcz51_3, hcz51_4, hcz51_5⟩ := xC6 BK101.out; obtain ⟨hfz51_0, hfz51_1, hfz51_2, hfz51_3, hfz51_4, hfz51_5⟩ := xF6 BK101.out; obtain ⟨hcz52_0, hcz52_1, hcz52_2, hcz52_3, hcz52_4, hcz52_5⟩ := xC6 BK102.out; obtain ⟨hfz52_0, hfz52_1, hfz52_2, hfz52_3, hfz52_4, hfz52_5⟩ := xF6 BK102.out; go_wp2_with (first | (go_at_call 13; (with_reducible refine (armadalaw11_live.calls  t118 _ ?side1 ?side2 A49.out).mono ?_); (case side1 => exact GW.below HGW.out xB); (case side2 => exact HTRU_.out); rintro e w53 ⟨rfl, hb⟩; have n0_ := Aside0.mk (blk_below (g := gb101) (o := .cells #[.string a1_0, .int .i64 a1_1, .int .i64 a1_2, .int .i64 a1_3, .string a1_4, .string a1_5] 25 (0, 0)) xK hb); have n1_ := Aside0.mk (blk_below (g := gb102) (o := .cells #[.string a2_0, .int .i64 a2_1, .int .i64 a2_2, .int .i64 a2_3, .string a2_4, .string a2_5] 25 (0, 0)) xK hb); have n2_ := Aside0.mk (below_step xB hb); clear BK101; clear BK102; clear HB; have BK101 := n0_; have BK102 := n1_; have HB := n2_; clear n0_ n1_ n2_; (try clear hb))); go_ret; exact ⟨xW, xB⟩
       have c48b0 := beq_eq_false_iff_ne.mpr c48; have c48b1 := bne_iff_ne.mpr c48; exact absurd ((Option.some.inj H).trans HTRU_.out) (by decide)
end Go.Proofs.YtmbpefnhkimplaaGreatDoor.LOrder
end

section
namespace Go.Proofs.YtmbpefnhkimplaaGreatDoor.LOrder
open Go.RowKit Go.Proofs.YtmbpefnhkimplaaGreatDoor Go.Proofs.YtmbpefnhkimplaaGreatDoor.K0 Go.Proofs.YtmbpefnhkimplaaGreatDoor.RS Go.Proofs.YtmbpefnhkimplaaGreatDoorW.PrintWords Go.Proofs.YtmbpefnhkimplaaGreatDoorW.PrintLast Go.Proofs.YtmbpefnhkimplaaGreatDoorW.PrintMore
attribute [local go_sem] max2_int min2_int max_two min_two max_three min_three max_four min_four
set_option linter.unusedVariables false
set_option linter.unusedSimpArgs false
end Go.Proofs.YtmbpefnhkimplaaGreatDoor.LOrder
end

section
namespace Go.Proofs.YtmbpefnhkimplaaGreatDoor
open Go Go.RowKit Go.Proofs Go.Proofs.YtmbpefnhkimplaaGreatDoorW.PrintWords Go.Proofs.YtmbpefnhkimplaaGreatDoor.K0 Go.Proofs.YtmbpefnhkimplaaGreatDoor.RS Go.Proofs.YtmbpefnhkimplaaGreatDoor.LOrder
set_option linter.unusedVariables false
set_option linter.unusedSimpArgs false
theorem order_j0 (s : ByteArray) (a b : Rq) (k : Nat) (hs : s.size ≤ 3000) (ha : a.f0.size ≤ 200) (hb : b.f0.size ≤ 200) :
    armadalaw11_EditOrder.j0 (k + 3) s false a.f0 a.f1.f0 a.f1.f1 a.f1.f2 a.f1.f3 a.f1.f4 b.f0 b.f1.f0 b.f1.f1 b.f1.f2 b.f1.f3 b.f1.f4 = some true := by
  have s1 := setP_size s (by omega) a
  have s2 := setP_size s (by omega) b
  rw [armadalaw11_EditOrder.j0, if_neg (by simp), set_f (by omega) (by omega), set_f (by omega) (by omega)]
  simp only [Option.bind_some]
  by_cases h1 : (setP s a).2 = 0
  · rw [if_pos h1]
    by_cases h2 : (setP s b).2 = 0
    · rw [show ((setP s b).2 != 0) = false by rw [h2]; rfl, armadalaw11_EditOrder.j1, if_neg (by simp), set_f (by omega) (by omega), set_f (by omega) (by omega)]
      simp only [Option.bind_some]
      by_cases he : a.f0 = b.f0
      · obtain ⟨g1, g2⟩ := set_twice (by omega) h1 h2 he
        obtain ⟨g3, g4⟩ := set_twice (by omega) h2 h1 he.symm
        rw [if_pos g1, show ((setP (setP s b).1 a).2 != 0) = false by rw [g3]; rfl, armadalaw11_EditOrder.j2, if_neg (by simp), if_pos (by rw [he]), if_pos (by rw [g2]), if_pos (by rw [g4])]
        rfl
      · obtain ⟨g1, g2, g3⟩ := set_comm (by omega) h1 h2 he
        rw [if_pos g1, show ((setP (setP s b).1 a).2 != 0) = false by rw [g2]; rfl, armadalaw11_EditOrder.j2, if_neg (by simp), if_neg (fun e => he ((toList_eq_iff _ _).1 e)), if_pos (by rw [g3])]
        rfl
    · rw [show ((setP s b).2 != 0) = true by simpa using h2, armadalaw11_EditOrder.j1, if_pos rfl]
      rfl
  · rw [if_neg h1, armadalaw11_EditOrder.j1, if_pos rfl]
    rfl
theorem order_pure (s : ByteArray) (p1 : ByteArray) (a1 b1 c1 : Int) (q1 t1 : ByteArray) (p2 : ByteArray) (a2 b2 c2 : Int) (q2 t2 : ByteArray) : ∃ k, armadalaw11_EditOrder.f k s p1 a1 b1 c1 q1 t1 p2 a2 b2 c2 q2 t2 = some true := by
  refine ⟨10, ?_⟩
  unfold armadalaw11_EditOrder.f
  by_cases hs : (s.size : Int) > 3000
  · rw [if_pos hs, armadalaw11_EditOrder.j0, if_pos rfl]; rfl
  · rw [if_neg hs]
    obtain ⟨b, h1, h2⟩ := few_f [(⟨p1, ⟨a1, b1, c1, q1, t1⟩⟩ : Rq), ⟨p2, ⟨a2, b2, c2, q2, t2⟩⟩] (show 2 ≤ 9223372036854775807 by decide) 10 (show 2 < 10 by decide)
    rw [h1]
    simp only [Option.bind_some]
    cases b with
    | false => rw [armadalaw11_EditOrder.j0]; rfl
    | true =>
      obtain ⟨_, h3⟩ := h2 rfl
      exact order_j0 s ⟨p1, ⟨a1, b1, c1, q1, t1⟩⟩ ⟨p2, ⟨a2, b2, c2, q2, t2⟩⟩ 7 (by omega) (h3 _ (by simp)) (h3 _ (by simp))
end Go.Proofs.YtmbpefnhkimplaaGreatDoor
end

section
namespace Go.Proofs.YtmbpefnhkimplaaGreatDoor
open Go Go.ChangeShapes Go.WideShapes Go.ChangeAt Go.RowKit Go.Joins Go.Deep Go.Proofs.YtmbpefnhkimplaaGreatDoor.LOrder
set_option linter.unusedVariables false
set_option maxRecDepth 100000 in
theorem editOrder_lifted (os : Os) (started : os.Started) (H : Type) (enc : TypeId × Value → H) :
    ReturnsInHanded {} Tryz.checked os 5 .any (fun w args => (Rows.editOrderSpec.pre enc Tryz.prog Tryz.f5 Rows.editOrderRow.domain false w args ∧ laidMetH Tryz.prog Rows.editOrderRow.laid w) ∧ sizedMet enc Tryz.prog Tryz.f5 (OpenSpec.ofChange Rows.editOrderSpec) false w args)
      (Rows.editOrderSpec.post enc Tryz.prog Tryz.f5 false true false false) := by
  refine lifted_of (C := Tryz.checked) (tb := 4) laidOut rfl own started (by kernel_rfl) Tryz.func5 (by kernel_rfl) (by kernel_rfl) Tryz.underlying4 ?_
    (ChangeSpec.witness_shaped (enc := enc) (C := Tryz.checked) (os := os) (X := fun w _ => laidMetH Tryz.prog Rows.editOrderRow.laid w) false (laidHW os Rows.editOrderRow.laid) #[.string ⟨#[]⟩, .agg #[.string ⟨#[]⟩, .int .i64 0, .int .i64 0, .int .i64 0, .string ⟨#[]⟩, .string ⟨#[]⟩], .agg #[.string ⟨#[]⟩, .int .i64 0, .int .i64 0, .int .i64 0, .string ⟨#[]⟩, .string ⟨#[]⟩]] 8 (laidHW_os _ _)
      (World.shaped_of_ZipB (by kernel_rfl) (by kernel_rfl)) (by kernel_rfl) (by kernel_rfl) (by kernel_rfl)
      (laidHW_met _ (by kernel_rfl) (by kernel_rfl) (by kernel_rfl))) ?_
  · intro ds hd
    match ds, hd.trans (show Tryz.f5.params.size = 3 by kernel_rfl) with
    | [_, _, _], _ => rfl
  · intro W base args ds ps hval0 hA0 hz hsh hL
    have hval : ∀ (j : Nat) t v, Tryz.f5.params[j]? = some t → args[j]? = some v → Value.okWide Tryz.prog W .any base t v := hval0
    have hA : DataW.TrodAll enc Tryz.prog W 0 (fun _ => true) true Tryz.f5.params.toList args.toList ds ps := hA0
    rw [Tryz.params5] at hA hval
    obtain ⟨v0, v1, v2, d0, d1, d2, p0, p1, p2, rfl, rfl, rfl, h0, h1, h2⟩ := trodAll_three hA
    obtain ⟨x0, rfl, rfl, rfl, _⟩ := ChangeMaps.open_string Tryz.underlying9 (hval 0 9 v0 rfl rfl) h0
    obtain ⟨x1a, x1b, x1c, x1d, x1p, x1q, rfl⟩ := arg_req (hval 1 25 v1 rfl rfl) h1
    obtain ⟨x2a, x2b, x2c, x2d, x2p, x2q, rfl⟩ := arg_req (hval 2 25 v2 rfl rfl) h2
    obtain ⟨k, hk⟩ := order_pure x0 x1a x1b x1c x1d x1p x1q x2a x2b x2c x2d x2p x2q
    exact armadalaw11_EditOrder.calls k x0 x1a x1b x1c x1d x1p x1q x2a x2b x2c x2d x2p x2q true W  (gw_of hsh hL) rfl hk
theorem editOrder_holds : Rows.EditOrderSaid :=
  OpenClaim.holds_of_wide 5 Tryz.f5 rfl rfl rfl rfl rfl rfl rfl ⟨rfl, rfl, rfl, rfl, rfl⟩ rfl rfl rfl rfl rfl (by kernel_rfl) Tryz.func5 (by kernel_rfl)
    (of_decide_eq_true (by kernel_rfl)) (by unfold Func.isWrapper; first | (rw [if_pos (by decide +kernel)]; kernel_rfl) | (rw [if_neg (by decide +kernel)]; exact ⟨rfl, rfl⟩))
    (fun os started H enc _ => editOrder_lifted os started H enc)
theorem editOrder_card : Rows.EditOrderCardSaid :=
  Claim7.holds_tied_plain_at .later [] [.data, .data, .data, .data, .handle, .sentinel, .sentinel, .pinned] true (true, "496dd1483d0bda906c37f8e0f85f4c660e19dc15adcc1c3e15d43ef483c9624e") true editOrder_holds (fun _ h => by cases h) (by kernel_rfl) (fun _ h => by cases h) editOrder_row_tie rfl ⟨rfl, rfl⟩ (by kernel_rfl) rfl
    (fun f fn hf hfn => by
      obtain rfl : f = 5 := Option.some.inj ((show Tryz.prog.funcNamed "armada/armadalaw11.EditOrder" = some 5 by kernel_rfl).symm.trans hf) |>.symm
      obtain rfl : fn = Tryz.f5 := (Option.some.inj (Tryz.func5.symm.trans hfn)).symm
      exact ⟨by kernel_rfl, fun j t ht => by
        rw [Tryz.params5] at ht
        have hm : t ∈ [9, 25, 25] := by simpa using Array.mem_of_getElem? ht
        have hall : ([9, 25, 25].all fun u => !Tryz.prog.wantsStandIn u) = true := by kernel_rfl
        exact (show Tryz.prog.wantsStandIn t = false by simpa using List.all_eq_true.1 hall t hm)⟩)
    (by kernel_rfl)
#print axioms editOrder_card
end Go.Proofs.YtmbpefnhkimplaaGreatDoor
end
