/- The law armadalaw11.EditAll answers true whatever it is handed, and what it was handed reads as it did; its tied card holds.
   Conditions: those of the row and the card alone: the listed variables of Go's library hold what the program's own text lays in them. -/
import Derived.Test.YtmbpefnhkimplaaGreatDoorZE5
import Derived.Test.YtmbpefnhkimplaaGreatDoorTie
import Derived.Test.YtmbpefnhkimplaaGreatDoorCards
import Derived.ProofKit
import Derived.OpenShut
import Derived.LaidMore
import Derived.LaidSub
import Derived.LaidHandle
import Derived.Lay
import Derived.SevenTiedAt
import Derived.Stop.Joined
import Derived.Stop.LaidErr
import Derived.Carry
import Derived.Shelf.Vars
import Derived.Handed
import Derived.JoinedOf
import Derived.Test.YtmbpefnhkimplaaGreatDoorZE7
import Derived.Test.YtmbpefnhkimplaaGreatDoorZE41
import Derived.Test.YtmbpefnhkimplaaGreatDoorZE42
import Derived.Test.YtmbpefnhkimplaaGreatDoorZE43
import Derived.Lib.SmallJoins
section
namespace Go.Proofs.YtmbpefnhkimplaaGreatDoor
open Go Go.ChangeShapes Go.WideShapes Go.ChangeAt Go.RowKit Go.Joins Go.Deep Go.Proofs.YtmbpefnhkimplaaGreatDoorW.PrintWords
set_option linter.unusedVariables false
theorem own : ownKnob Tryz.prog.godebug = none := by kernel_rfl
theorem laidOut : laidOutB Tryz.prog = true := by kernel_rfl
section
variable {H : Type} {enc : TypeId × Value → H} {P : Program}
theorem trodAll_carry (hl : laidOutB P = true) {W W' : World} (hb : Below W.heap.size W W') : ∀ {ts : List TypeId} {vs : List Value} {ds : List (DataW H)} {ps : List MemPlace},
    (ts.all fun t => P.readableRec t && decide (t < P.types.size)) = true → DataW.TrodAll enc P W 0 (fun _ => true) true ts vs ds ps → ∀ sp : Nat → Bool, (∀ p ∈ ps, sp p.block = true) → DataW.TrodAll enc P W' 0 sp true ts vs ds ps
  | [], [], [], _, _, h, _, _ => h
  | [], [], _ :: _, _, _, h, _, _ => h.elim
  | [], _ :: _, _, _, _, h, _, _ => h.elim
  | _ :: _, [], _, _, _, h, _, _ => h.elim
  | _ :: _, _ :: _, [], _, _, h, _, _ => h.elim
  | t :: ts, v :: vs, d :: ds, ps, hr, h, sp, hs => by
    have hlt := h.lt
    obtain ⟨p, q, h1, h2, rfl⟩ := h
    simp only [List.all_cons, Bool.and_eq_true, decide_eq_true_eq] at hr
    exact ⟨p, q, WideElems.Trod_stays hl hr.1.1 hr.1.2 h1 (fun x hx => hb.same (hlt x (by simp [hx]))) (fun x hx => hs x (by simp [hx])),
      trodAll_carry hl hb (by simpa using hr.2) h2 sp (fun x hx => hs x (by simp [hx])), rfl⟩
theorem post_true {f : Func} {s : ChangeSpec} {W W' : World} {args : Array Value} {ds : List (DataW H)} {before : List MemPlace} {tb : TypeId} (hl : laidOutB P = true) (hv : s.vars = [])
    (hW : DataW.Whole enc P f.params.toList s.vars false W args.toList ds [] before) (hr : (f.params.toList.all fun t => P.readableRec t && decide (t < P.types.size)) = true)
    (hres : f.resultTypes = #[tb]) (hbool : P.underlying tb = some .bool) (hfn : s.fn H (ds ++ []) = { results := [.lit (.bool true)], args := ds }) (hb : Below W.heap.size W W') :
    s.post enc P f false true false false W args (.bool true) W' := by
  have hlt := hW.lt
  obtain ⟨p, q, hA, hV, hpq, hz, hn⟩ := hW
  have hq : q = [] := by rw [hv] at hV; exact hV
  subst hq
  rw [List.append_nil] at hpq
  subst hpq
  refine ⟨ds, [], before, [], before, [], ⟨before, [], hA, hV, (List.append_nil _).symm, hz, hn⟩, ?_, ?_, ?_, hb.frame _, fun h => by cases h⟩
  · rw [hfn, hres]
    exact trodAll_mk1 (shut_bool hbool _)
  · rw [hfn]
    exact trodAll_carry hl hb hr hA _ (fun x hx => by simpa using hlt x hx)
  · rw [hfn, hv]
    exact rfl
theorem lifted_of {C : Checked} {os : Os} {f : FuncId} {fn : Func} {s : ChangeSpec} {conds : List PathCond} {laid : List (String × DataW Unit)} {tb : TypeId} (hl : laidOutB C.prog = true) (hv : s.vars = [])
    (own : ownKnob C.prog.godebug = none) (started : os.Started) (noInit : C.prog.inits.idxOf? f = none) (hfn : C.prog.funcs[f]? = some fn)
    (hr : (fn.params.toList.all fun t => C.prog.readableRec t && decide (t < C.prog.types.size)) = true)
    (hres : fn.resultTypes = #[tb]) (hbool : C.prog.underlying tb = some .bool)
    (hspec : ∀ ds : List (DataW H), ds.length = fn.params.size → s.fn H (ds ++ []) = { results := [.lit (.bool true)], args := ds })
    (witness : ∃ (w : World) (tape : Tape) (i : Input), w.os = os ∧ (w.forCall tape i).Shaped C.prog ∧ i.vars = [] ∧ Input.okWide C.prog (w.forCall tape i) .any w.heap.size f i ∧
      ((s.pre enc C.prog fn conds false (w.forCall tape i).memory i.args ∧ laidMetH C.prog laid (w.forCall tape i).memory) ∧ sizedMet enc C.prog fn (OpenSpec.ofChange s) false (w.forCall tape i).memory i.args) ∧
      ({} : Assume).holds C.prog (lone (Frame.enter C.prog f i.args .normal) [] (w.forCall tape i)))
    (law : ∀ (W : World) (base : Nat) (args : Array Value) (ds : List (DataW H)) (ps : List MemPlace),
      (∀ (j : Nat) t v, fn.params[j]? = some t → args[j]? = some v → Value.okWide C.prog W .any base t v) →
      DataW.TrodAll enc C.prog W 0 (fun _ => true) true fn.params.toList args.toList ds ps →
      (DataW.weightsEach C.prog fn.params.toList ds).all (· ≤ reachBytes) = true →
      W.ShapedOpen C.prog → laidMetH C.prog laid W →
      Calls C.prog f args W fun e W' => e = .returned (.bool true) ∧ Below W.heap.size W W') :
    ReturnsInHanded {} C os f .any (fun w args => (s.pre enc C.prog fn conds false w args ∧ laidMetH C.prog laid w) ∧ sizedMet enc C.prog fn (OpenSpec.ofChange s) false w args) (s.post enc C.prog fn false true false false) := by
  refine returnsInHanded_of_calls own started noInit witness ?_
  intro w tape i _ hsh _ hok hpre hholds
  obtain ⟨_, _, _, fn', hfn', _, _, _, _, hval⟩ := hok
  have e : fn' = fn := Option.some.inj (hfn'.symm.trans hfn)
  subst e
  obtain ⟨⟨⟨ds, gs, before, hw, hc⟩, hx⟩, hz⟩ := hpre
  have hgs : gs = [] := by
    obtain ⟨_, _, _, hV, _⟩ := hw
    rw [hv] at hV
    cases gs with
    | nil => rfl
    | cons _ _ => exact hV.elim
  subst hgs
  have hw' := DataW.Whole.of_heap (w' := w.forCall tape i) (by rfl) hw
  have hz' := hz.weights hw
  obtain ⟨p, q, hA, _⟩ := hw'
  have hlen : ∀ {ts : List TypeId} {vs : List Value} {ds : List (DataW H)} {ps : List MemPlace}, DataW.TrodAll enc C.prog (w.forCall tape i) 0 (fun _ => true) true ts vs ds ps → ds.length = ts.length := by
    intro ts
    induction ts with
    | nil => intro vs ds ps h; cases vs <;> cases ds <;> first | rfl | exact h.elim
    | cons t ts ih =>
      intro vs ds ps h
      cases vs <;> cases ds <;> first | exact h.elim | skip
      obtain ⟨_, _, _, h2, _⟩ := h
      simp [ih h2]
  have hz2 : (DataW.weightsEach C.prog fn'.params.toList ds).all (· ≤ reachBytes) = true := by
    have e1 : (OpenSpec.ofChange s).bare.plain.varTypes C.prog = [] := by
      show s.plain.varTypes C.prog = []
      unfold DataSpec.varTypes ChangeSpec.plain
      simp [hv]
    rw [e1, List.append_nil, List.append_nil] at hz'
    exact hz'
  refine (law (w.forCall tape i) w.heap.size i.args ds p hval hA hz2 hsh (hx.of_heap (by rfl))).mono fun e W' ⟨he, hb⟩ => ?_
  subst he
  refine ChangeSpec.post_blind (post_true hl hv (DataW.Whole.of_heap (w' := w.forCall tape i) (by rfl) hw) hr hres hbool (hspec ds ?_) hb)
  rw [hlen hA]; simp
end
theorem laid_mem {P : Program} {W : World} {x : String × DataW Unit} : ∀ {l : List (String × DataW Unit)}, laidMet P l W → x ∈ l → ∃ r, laidMet P (x :: r) W
  | [], _, h => by cases h
  | y :: l, hl, h => by
    rcases List.mem_cons.1 h with rfl | h'
    · exact ⟨l, hl⟩
    · exact laid_mem hl.tail h'
theorem iface_var {P : Program} {W : World} {n nm : String} {d : DataW Unit} {r : List (String × DataW Unit)} {g : Nat} {ti : TypeId} {ms : Array (String × TypeId)} (h : laidMet P ((n, .iface nm d) :: r) W)
    (hg : P.globalNamed n = some g) (ht : (P.globals[g]?).map (·.type) = some ti) (hi : P.underlying ti = some (.interface ms)) : ∃ tp p, W.var? P n = some #[.iface tp p] := by
  obtain ⟨ps, ⟨g0, t0, cs0, f0, p0, q0, hg0, ht0, hv0, hd0, _, _⟩, _, _⟩ := h
  obtain rfl := Option.some.inj (hg.symm.trans hg0)
  obtain rfl := Option.some.inj (ht.symm.trans ht0)
  obtain ⟨l0⟩ := cs0
  cases f0 with
  | zero => cases hd0
  | succ f0 =>
    unfold DataW.trod at hd0
    rw [hi] at hd0
    split at hd0 <;> first
      | (rename_i h1 h2; cases h1; done)
      | skip
    all_goals first
      | (cases hd0; done)
      | (rename_i u v h1 h2; simp only at h2; subst h2; exact ⟨u, v, hv0⟩)
      | skip
    all_goals (rename_i h1; cases h1)
section
variable {H : Type} {enc : TypeId × Value → H} {P : Program} {w : World} {base : Nat} {spare : Nat → Bool} {held : Bool}
end
/-- A world in which the listed variables hold what the program lays, a type's handle among them. -/
noncomputable def handW (os : Os) : World :=
  let w0 := World.holding Tryz.prog os ⟨#[], #[], []⟩
  { w0 with heap := w0.heap.modify 1 fun
      | .cells _ t frozen => .cells #[.iface 198 (.agg #[typeHandle Tryz.prog 95])] t frozen
      | o => o }
noncomputable def laidHW (os : Os) (l : List (String × DataW Unit)) : World := (handW os).layVars Tryz.prog (l.filter fun x => x.2.handleName?.isNone)
theorem laidHW_os (os : Os) (l : List (String × DataW Unit)) : (laidHW os l).os = os := World.layVars_os _ _ _
theorem laidHW_met {os : Os} {l : List (String × DataW Unit)} (args : Array Value) (hf : (handW os).layFits Tryz.prog (l.filter fun x => x.2.handleName?.isNone) [] = true)
    (hi : (handW os).layIfaces Tryz.prog (l.filter fun x => x.2.handleName?.isNone) (laidHW os l) = true)
    (hh : (l.filter fun x => x.2.handleName?.isSome).all (handleAtB Tryz.prog ((laidHW os l).forCall (fun _ _ => 0) ⟨#[], args, []⟩).memory) = true) :
    laidMetH Tryz.prog l ((laidHW os l).forCall (fun _ _ => 0) ⟨#[], args, []⟩).memory := by
  refine laidMetH_of_parts ?_ hh
  generalize hp : (l.filter fun x => x.2.handleName?.isNone) = p at hf hi
  have e1 : (p.filter fun x => (p.map (·.1)).contains x.1) = p := List.filter_eq_self.2 fun x hx => List.contains_iff_mem.2 (List.mem_map.2 ⟨x, hx, rfl⟩)
  have e2 : (p.filter fun x => !(p.map (·.1)).contains x.1) = [] := List.filter_eq_nil_iff.2 fun x hx => by rw [List.contains_iff_mem.2 (List.mem_map.2 ⟨x, hx, rfl⟩)]; simp
  have h : laidMet Tryz.prog p (laidHW os l) := laidMet_layVars (w0 := handW os) (p.map (·.1)) [] (by rw [e1]; unfold laidHW; rw [hp]) (by rw [e1]; exact hf) (by rw [e1]; exact hi) (by rw [e2]; exact LaidIn.none)
  exact h.of_heap (by simp [World.memory, World.forCall, Input.heap])
/-- What the row lists gives the walk's world. -/
theorem gw_of {W : World} (h : W.ShapedOpen Tryz.prog) (hl : laidMetH Tryz.prog Rows.editAllRow.laid W) : GW W := by
  obtain ⟨hl, hh⟩ := laidMetH_iff.1 hl
  have hT : W.cell? ⟨1, 0, none⟩ = some (.iface 198 (.agg #[typeHandle Tryz.prog 95])) := by
    obtain ⟨name, u, ty, e1, e2, e3, e4, e5⟩ := hh ("errors.errorType", Rows.laid_errors_errorType) (List.mem_filter.2 ⟨by repeat (first | exact List.mem_cons_self .. | apply List.mem_cons_of_mem), rfl⟩)
    have en : name = [101, 114, 114, 111, 114] := (Option.some.inj e1).symm
    subst en
    obtain rfl := Option.some.inj ((show (Tryz.prog.cutTypes.find? (·.1 == "internal/reflectlite.rtype")).map (·.2) = some 198 by kernel_rfl).symm.trans e2)
    have hm : ty ∈ (List.range Tryz.prog.types.size).filter fun t => Tryz.prog.rowNamed t [101, 114, 114, 111, 114] := List.mem_filter.2 ⟨List.mem_range.2 e3, e4⟩
    rw [show ((List.range Tryz.prog.types.size).filter fun t => Tryz.prog.rowNamed t [101, 114, 114, 111, 114]) = [95] by kernel_rfl] at hm
    obtain rfl := List.mem_singleton.1 hm
    simpa using World.var?_cell (show Tryz.prog.globalNamed "errors.errorType" = some 1 by kernel_rfl) e5 0
  obtain ⟨_, h1⟩ := laid_mem (x := ("internal/strconv.uint64pow10", Rows.laid_internal_strconv_uint64pow10)) hl (List.mem_filter.2 ⟨by repeat (first | exact List.mem_cons_self .. | apply List.mem_cons_of_mem), rfl⟩)
  obtain ⟨_, h2⟩ := laid_mem (x := ("strconv.ErrRange", Rows.laid_strconv_ErrRange)) hl (List.mem_filter.2 ⟨by repeat (first | exact List.mem_cons_self .. | apply List.mem_cons_of_mem), rfl⟩)
  obtain ⟨_, h3⟩ := laid_mem (x := ("strconv.ErrSyntax", Rows.laid_strconv_ErrSyntax)) hl (List.mem_filter.2 ⟨by repeat (first | exact List.mem_cons_self .. | apply List.mem_cons_of_mem), rfl⟩)
  exact {
    maxLen := cell_of_shapedOpen_int (P := Tryz.prog) (g := 0) (t := 3) (zero := #[.int .i64 0]) h (of_decide_eq_true (by kernel_rfl)) (by kernel_rfl) rfl (by kernel_rfl) (by kernel_rfl) Tryz.underlying3
    pow10 := Lib.tabIs_of_head (k := .u64) (zs := Lib.pow10Tab) (g := 2) (t := 248) (e := 215) (n := 20) (by kernel_rfl) (by kernel_rfl) (by kernel_rfl) (by kernel_rfl) (by kernel_rfl) (by kernel_rfl)
      (show laidMet _ ((_, Lib.tabData .u64 Lib.pow10Tab) :: _) _ from (show Rows.laid_internal_strconv_uint64pow10 = (Lib.tabData .u64 Lib.pow10Tab : DataW Unit) from by kernel_rfl) ▸ h1)
    errT := hT
    errS := iface_var h3 (g := 5) (ti := 95) (by kernel_rfl) (by kernel_rfl) Tryz.underlying95
    errR := iface_var h2 (g := 6) (ti := 95) (by kernel_rfl) (by kernel_rfl) Tryz.underlying95 }
end Go.Proofs.YtmbpefnhkimplaaGreatDoor
end

section
namespace Go.Proofs.YtmbpefnhkimplaaGreatDoor.LAll
open Go.RowKit Go.Proofs.YtmbpefnhkimplaaGreatDoor Go.Proofs.YtmbpefnhkimplaaGreatDoor.K0 Go.Proofs.YtmbpefnhkimplaaGreatDoor.RS Go.Proofs.YtmbpefnhkimplaaGreatDoorW.PrintWords Go.Proofs.YtmbpefnhkimplaaGreatDoorW.PrintLast Go.Proofs.YtmbpefnhkimplaaGreatDoorW.PrintMore
attribute [local go_sem] max2_int min2_int max_two min_two max_three min_three max_four min_four
set_option linter.unusedVariables false
set_option linter.unusedSimpArgs false
end Go.Proofs.YtmbpefnhkimplaaGreatDoor.LAll
end

section
namespace Go.Proofs.YtmbpefnhkimplaaGreatDoor.LAll
open Go.RowKit Go.Proofs.YtmbpefnhkimplaaGreatDoor Go.Proofs.YtmbpefnhkimplaaGreatDoor.K0 Go.Proofs.YtmbpefnhkimplaaGreatDoor.RS Go.Proofs.YtmbpefnhkimplaaGreatDoorW.PrintWords Go.Proofs.YtmbpefnhkimplaaGreatDoorW.PrintLast Go.Proofs.YtmbpefnhkimplaaGreatDoorW.PrintMore
attribute [local go_sem] max2_int min2_int max_two min_two max_three min_three max_four min_four
set_option linter.unusedVariables false
set_option linter.unusedSimpArgs false
mutual
def armadalaw11_EditAll.j0 : Nat → ByteArray → List (S25) → Int → Bool → Option (Bool)
 | 0, _, _, _, _ => none
 | k + 1, x0, x1, x2, x36 => if x36 = true then ((armadalaw11_live.f).bind fun t102 => (some t102)) else ((edit_All.f x0 ([] : List (S25))).bind fun bt103 => (if bt103.2.2 = 0 then ((edit_All.f x0 x1).bind fun bt107 => (if 0 ≤ x2 then (if x2 ≤ (x1.length : Int) then ((edit_All.f x0 (x1.take (x2 : Int).toNat)).bind fun bt114 => (if bt103.1.toList = x0.toList then (if bt103.2.1 = 0 then (if bt107.2.2 = 0 then (armadalaw11_EditAll.j1 k x1 x2 bt107.1 bt107.2.1 bt107.2.2 bt114.1 bt114.2.1 bt114.2.2 (bt114.2.2 != 0)) else (armadalaw11_EditAll.j1 k x1 x2 bt107.1 bt107.2.1 bt107.2.2 bt114.1 bt114.2.1 bt114.2.2 false)) else (armadalaw11_EditAll.j1 k x1 x2 bt107.1 bt107.2.1 bt107.2.2 bt114.1 bt114.2.1 bt114.2.2 true)) else (armadalaw11_EditAll.j1 k x1 x2 bt107.1 bt107.2.1 bt107.2.2 bt114.1 bt114.2.1 bt114.2.2 true))) else (none)) else (none))) else (if bt103.1.toList = ([] : List UInt8) then (if bt103.2.1 = 0 then ((armadalaw11_live.f).bind fun t106 => (some t106)) else (some false)) else (some false))))
def armadalaw11_EditAll.j1 : Nat → List (S25) → Int → ByteArray → Int → Int → ByteArray → Int → Int → Bool → Option (Bool)
 | 0, _, _, _, _, _, _, _, _, _ => none
 | k + 1, x1, x2, x10, x11, x12, x13, x14, x15, x85 => if x85 = true then (some false) else (if x15 = 0 then (if 0 ≤ x2 then (if x2 ≤ (x1.length : Int) then ((edit_All.f x13 (x1.drop (x2 : Int).toNat)).bind fun bt121 => (if bt121.1.toList = x10.toList then (if x12 = bt121.2.2 then (if x12 = 0 then (if x11 = (wrap64 (x14 + bt121.2.1)) then ((armadalaw11_live.f).bind fun t124 => (some t124)) else (some false)) else ((armadalaw11_live.f).bind fun t125 => (some t125))) else (some false)) else (some false))) else (none)) else (none)) else (if x10.toList = ([] : List UInt8) then (if x11 = 0 then ((armadalaw11_live.f).bind fun t126 => (some t126)) else (some false)) else (some false)))
end
def armadalaw11_EditAll.f (k : Nat) (a0 : ByteArray) (l1 : List (S25)) (a2 : Int) : Option (Bool) := if (a0.size : Int) > 3000 then (armadalaw11_EditAll.j0 k a0 l1 a2 true) else ((armadalaw11_few.f k l1).bind fun t101 => (if t101 = true then (if a2 < 0 then (armadalaw11_EditAll.j0 k a0 l1 a2 true) else (armadalaw11_EditAll.j0 k a0 l1 a2 (decide (a2 > (l1.length : Int))))) else (armadalaw11_EditAll.j0 k a0 l1 a2 true)))
set_option maxHeartbeats 8000000 in
set_option maxRecDepth 100000 in
theorem armadalaw11_EditAll.calls (k : Nat) (a0 : ByteArray) (A1 : Option Addr) (c1 : Nat) (l1 : List (S25)) (a2 : Int) (r : Bool) (w : World) (hr1 : Kd.C k25 w A1 l1.length l1) (hc1 : l1.length ≤ c1) (hG : GW w) (hT : r = true) (h : armadalaw11_EditAll.f k a0 l1 a2 = some r) :
  Calls Tryz.prog 6 #[.string a0, .slice A1 l1.length c1, .int .i64 a2] w fun e w' => e = .returned (.bool r) ∧ Below w.heap.size w w' := by
 have HR1 := Aside0.mk hr1; have HC1 := Aside0.mk hc1; clear hr1 hc1; have HGW := Aside0.mk hG; clear hG; have HTRU_ := Aside0.mk hT; clear hT; have HB := Aside0.mk (Below.refl w.heap.size w); have H : (if (a0.size : Int) > 3000 then (armadalaw11_EditAll.j0 k a0 l1 a2 true) else ((armadalaw11_few.f k l1).bind fun t101 => (if t101 = true then (if a2 < 0 then (armadalaw11_EditAll.j0 k a0 l1 a2 true) else (armadalaw11_EditAll.j0 k a0 l1 a2 (decide (a2 > (l1.length : Int))))) else (armadalaw11_EditAll.j0 k a0 l1 a2 true)))) = some r := h; clear h; have HC4 := Aside0.mk H; clear H; go_enter Tryz.func6, Tryz.ntmps6; go_upto_region 1 with (fail)
 go_cut [36] (fun v36 wc => ∃ (kq : Nat) (x36_3 : Bool), v36 = .bool x36_3 ∧ Aside0 (armadalaw11_EditAll.j0 kq a0 l1 a2 x36_3 = some r) ∧ Aside0 (kq ≤ k) ∧ Aside0 (Below w.heap.size w wc))
 case first =>
  have H := HC4.out; clear HC4; replace H := xJ H; rcases H with ⟨c5, H⟩ | ⟨c5, H⟩
  ·
   have c5b0 := decide_eq_true c5; have c5b1 : decide (3000 < a0.size) = true := decide_eq_true (by omega); clear c5
   (first | rw [c5b0] | (simp only [i64_w, i32_w]; rw [c5b0]) | skip)
   have H' := Aside0.mk H; clear H; go_wp2; go_meet
   case rel => exact ⟨_, (true), xR, H', ⟨by first | omega | exact Nat.le_refl _⟩, ⟨xB⟩⟩
  have c5b0 := decide_eq_false c5; have c5b1 : decide (3000 < a0.size) = false := decide_eq_false (by omega); clear c5
  (first | rw [c5b0] | (simp only [i64_w, i32_w]; rw [c5b0]) | skip)
  replace H := xb H; obtain ⟨t101, A6, H⟩ := H
  by_cases c7 : t101 = true
  ·
   subst c7; rw [if_pos rfl] at H; replace H := xJ H; rcases H with ⟨c8, H⟩ | ⟨c8, H⟩
   ·
    have c8b0 := decide_eq_true c8; clear c8; have H' := Aside0.mk H; clear H; go_wp2_with (first | (go_at_call 12; (with_reducible refine (armadalaw11_few.calls k _ _ l1 true _ ?side1 ?side2 A6.out).mono ?_); (case side1 => repeat (first | exact (Kd.C_below HR1.out HB.out) | (with_reducible refine Kd.C_alloc ?_ _) | (with_reducible refine Kd.C_drewN ?_ _) | (with_reducible refine Kd.C_drew ?_))); (case side2 => exact HC1.out); rintro e w' ⟨rfl, ⟨nd, rfl⟩⟩)); go_meet
    case rel => exact ⟨_, (true), xR, H', ⟨by first | omega | exact Nat.le_refl _⟩, ⟨xB⟩⟩
   have c8b0 := decide_eq_false c8; clear c8; have H' := Aside0.mk H; clear H; go_wp2_with (first | (go_at_call 12; (with_reducible refine (armadalaw11_few.calls k _ _ l1 true _ ?side1 ?side2 A6.out).mono ?_); (case side1 => repeat (first | exact (Kd.C_below HR1.out HB.out) | (with_reducible refine Kd.C_alloc ?_ _) | (with_reducible refine Kd.C_drewN ?_ _) | (with_reducible refine Kd.C_drew ?_))); (case side2 => exact HC1.out); rintro e w' ⟨rfl, ⟨nd, rfl⟩⟩)); go_meet
   case rel => exact ⟨_, (decide (a2 > (l1.length : Int))), xR, H', ⟨by first | omega | exact Nat.le_refl _⟩, ⟨xB⟩⟩
  replace c7 := Bool.eq_false_iff.mpr c7; subst c7; rw [if_neg (show ¬ (false = true) by decide)] at H; have H' := Aside0.mk H; clear H; go_wp2_with (first | (go_at_call 12; (with_reducible refine (armadalaw11_few.calls k _ _ l1 false _ ?side1 ?side2 A6.out).mono ?_); (case side1 => repeat (first | exact (Kd.C_below HR1.out HB.out) | (with_reducible refine Kd.C_alloc ?_ _) | (with_reducible refine Kd.C_drewN ?_ _) | (with_reducible refine Kd.C_drew ?_))); (case side2 => exact HC1.out); rintro e w' ⟨rfl, ⟨nd, rfl⟩⟩)); go_meet
  case rel => exact ⟨_, (true), xR, H', ⟨by first | omega | exact Nat.le_refl _⟩, ⟨xB⟩⟩
 case rest =>
  clear HC4
  try clear c1
  try clear p2
  try clear c5
  try clear c5b0
  try clear c5b1
  try clear c6
  try clear c7
  try clear c8
  try clear c8b0
  obtain ⟨kq, x36_3, rfl, HA, HJ3, HB⟩ := hcut
  cases kq with
  | zero => exact absurd HA.out (by simp [armadalaw11_EditAll.j0])
  | succ kj3 =>
   have H := HA.out; clear HA; simp only [armadalaw11_EditAll.j0] at H
   by_cases c9 : x36_3 = true
   ·
    subst c9; rw [if_pos rfl] at H; replace H := xb H; obtain ⟨t102, A10, H⟩ := H; obtain rfl := Option.some.inj H; go_wp2_with (first | ((with_reducible refine gate_callee (f := 13) rfl ?_); refine goesL_ (some 37) rfl rfl Tryz.func13 (by kernel_rfl) rfl #[] rfl xS ?_; (with_reducible refine (armadalaw11_live.calls  t102 _ ?side1 ?side2 A10.out).mono ?_); (case side1 => exact GW.below HGW.out xB); (case side2 => exact HTRU_.out); rintro e w11 ⟨rfl, hb⟩; refine ⟨_, rfl, ?_⟩; replace HB := Aside0.mk (below_step xB hb); (try clear hb))); go_ret; exact ⟨xW, xB⟩
   replace c9 := Bool.eq_false_iff.mpr c9; subst c9; rw [if_neg (show ¬ (false = true) by decide)] at H; replace H := Option.bind_eq_some_iff.mp H; obtain ⟨⟨t103, t104, t105⟩, A120, H⟩ := H; replace H : (if t105 = 0 then ((edit_All.f a0 l1).bind fun bt107 => (if 0 ≤ a2 then (if a2 ≤ (l1.length : Int) then ((edit_All.f a0 (l1.take (a2 : Int).toNat)).bind fun bt114 => (if t103.toList = a0.toList then (if t104 = 0 then (if bt107.2.2 = 0 then (armadalaw11_EditAll.j1 kj3 l1 a2 bt107.1 bt107.2.1 bt107.2.2 bt114.1 bt114.2.1 bt114.2.2 (bt114.2.2 != 0)) else (armadalaw11_EditAll.j1 kj3 l1 a2 bt107.1 bt107.2.1 bt107.2.2 bt114.1 bt114.2.1 bt114.2.2 false)) else (armadalaw11_EditAll.j1 kj3 l1 a2 bt107.1 bt107.2.1 bt107.2.2 bt114.1 bt114.2.1 bt114.2.2 true)) else (armadalaw11_EditAll.j1 kj3 l1 a2 bt107.1 bt107.2.1 bt107.2.2 bt114.1 bt114.2.1 bt114.2.2 true))) else (none)) else (none))) else (if t103.toList = ([] : List UInt8) then (if t104 = 0 then ((armadalaw11_live.f).bind fun t106 => (some t106)) else (some false)) else (some false))) = some r := H; have A12 := Aside0.mk A120; clear A120; replace H := xJ H; rcases H with ⟨c13, H⟩ | ⟨c13, H⟩
   ·
    have c13b0 := beq_iff_eq.mpr c13; have c13b1 := bne_eq_false_iff_eq.mpr c13; clear c13; replace H := Option.bind_eq_some_iff.mp H; obtain ⟨⟨t107, t108, t109⟩, A140, H⟩ := H; replace H : (if 0 ≤ a2 then (if a2 ≤ (l1.length : Int) then ((edit_All.f a0 (l1.take (a2 : Int).toNat)).bind fun bt114 => (if t103.toList = a0.toList then (if t104 = 0 then (if t109 = 0 then (armadalaw11_EditAll.j1 kj3 l1 a2 t107 t108 t109 bt114.1 bt114.2.1 bt114.2.2 (bt114.2.2 != 0)) else (armadalaw11_EditAll.j1 kj3 l1 a2 t107 t108 t109 bt114.1 bt114.2.1 bt114.2.2 false)) else (armadalaw11_EditAll.j1 kj3 l1 a2 t107 t108 t109 bt114.1 bt114.2.1 bt114.2.2 true)) else (armadalaw11_EditAll.j1 kj3 l1 a2 t107 t108 t109 bt114.1 bt114.2.1 bt114.2.2 true))) else (none)) else (none)) = some r := H; have A14 := Aside0.mk A140; clear A140; replace H := xI H; obtain ⟨c15, H⟩ := H; have c15b0 := eq_true c15; have c15b1 := decide_eq_true c15; clear c15; replace H := xI H; obtain ⟨c16, H⟩ := H; have c16b0 := eq_true c16; have c16b1 := decide_eq_true c16; clear c16; obtain ⟨y110, hy110⟩ : ∃ y_ : List (S25), y_ = (l1.take (a2 : Int).toNat) := ⟨_, rfl⟩
    replace H : ((edit_All.f a0 y110).bind fun bt114 => (if t103.toList = a0.toList then (if t104 = 0 then (if t109 = 0 then (armadalaw11_EditAll.j1 kj3 l1 a2 t107 t108 t109 bt114.1 bt114.2.1 bt114.2.2 (bt114.2.2 != 0)) else (armadalaw11_EditAll.j1 kj3 l1 a2 t107 t108 t109 bt114.1 bt114.2.1 bt114.2.2 false)) else (armadalaw11_EditAll.j1 kj3 l1 a2 t107 t108 t109 bt114.1 bt114.2.1 bt114.2.2 true)) else (armadalaw11_EditAll.j1 kj3 l1 a2 t107 t108 t109 bt114.1 bt114.2.1 bt114.2.2 true))) = some r := by first | (rw [hy110]; with_reducible exact H) | (have H2_ := (Option.bind_some _ _).symm.trans H; rw [hy110]; with_reducible exact H2_) | (have H2_ := (Option.bind_some _ _).symm.trans H; with_reducible exact H2_) | with_reducible exact H | (rw [hy110]; exact H) | exact H
    have Ny110 := Aside0.mk hy110; clear hy110; replace H := Option.bind_eq_some_iff.mp H; obtain ⟨⟨t114, t115, t116⟩, A170, H⟩ := H; replace H : (if t103.toList = a0.toList then (if t104 = 0 then (if t109 = 0 then (armadalaw11_EditAll.j1 kj3 l1 a2 t107 t108 t109 t114 t115 t116 (t116 != 0)) else (armadalaw11_EditAll.j1 kj3 l1 a2 t107 t108 t109 t114 t115 t116 false)) else (armadalaw11_EditAll.j1 kj3 l1 a2 t107 t108 t109 t114 t115 t116 true)) else (armadalaw11_EditAll.j1 kj3 l1 a2 t107 t108 t109 t114 t115 t116 true)) = some r := H; have A17 := Aside0.mk A170; clear A170; have HC18 := Aside0.mk H; clear H; go_upto_region 8 with (first | ((with_reducible refine gate_callee (f := 20) rfl ?_); refine goesL_ (some 40) rfl rfl Tryz.func20 (by kernel_rfl) rfl #[.string a0, .slice none 0 0] rfl xS ?_; (refine (edit_All.calls a0 _ _ ([] : List (S25)) t103 t104 t105 _ ?side1 ?side2 ?side3 A12.out).mono ?_); (case side1 => exact Kd.C_nil _ _); (case side2 => exact Nat.le_refl _); (case side3 => exact GW.below HGW.out xB); rintro e w19 ⟨rfl, hb⟩; refine ⟨_, rfl, ?_⟩; replace HB := Aside0.mk (below_step xB hb); (try clear hb)) | ((with_reducible refine gate_callee (f := 20) rfl ?_); refine goesL_ (some 58) rfl rfl Tryz.func20 (by kernel_rfl) rfl #[.string a0, .slice A1 l1.length c1] rfl xS ?_; (with_reducible refine (edit_All.calls a0 _ _ l1 t107 t108 t109 _ ?side1 ?side2 ?side3 A14.out).mono ?_); (case side1 => repeat (first | exact (Kd.C_below HR1.out HB.out) | (with_reducible refine Kd.C_alloc ?_ _) | (with_reducible refine Kd.C_drewN ?_ _) | (with_reducible refine Kd.C_drew ?_))); (case side2 => exact HC1.out); (case side3 => exact GW.below HGW.out xB); rintro e w20 ⟨rfl, hb⟩; refine ⟨_, rfl, ?_⟩; replace HB := Aside0.mk (below_step xB hb); (try clear hb); have q21 : (a2 : Int) ≤ ((l1.length : Int) : Int) := xD; obtain ⟨i021, hi021, _, hsz21, _⟩ := info_parts info25; have hroom21 : l1.length ≤ c1 := HC1.out; have hC21 : Kd.C k25 _ A1 l1.length l1 := HR1.out; have hcut21 := cut_to (P := Tryz.prog) 27 25 .i64 Tryz.underlying27 hi021 A1 l1.length c1 a2 (xD) q21 hroom21; have hr21 := Kd.C_take (m := (a2 : Int).toNat) hC21 (by omega); have hy21 : y110.length = (a2 : Int).toNat := (by rw [Ny110.out, List.length_take]; omega); rw [← Ny110.out] at hr21; rw [← hy21] at hcut21; have HR113 := Aside0.mk hr21; have HC113 := Aside0.mk (show y110.length ≤ c1 from by omega); clear hr21 hC21 hroom21 hi021 hsz21; have KY21 := Aside0.mk hy21; clear hy21; replace q21 := eq_true q21) | ((with_reducible refine gate_callee (f := 20) rfl ?_); refine goesL_ (some 67) rfl rfl Tryz.func20 (by kernel_rfl) rfl #[.string a0, .slice A1 y110.length c1] rfl xS ?_; (with_reducible refine (edit_All.calls a0 _ _ y110 t114 t115 t116 _ ?side1 ?side2 ?side3 A17.out).mono ?_); (case side1 => repeat (first | exact (Kd.C_below HR113.out HB.out) | (with_reducible refine Kd.C_alloc ?_ _) | (with_reducible refine Kd.C_drewN ?_ _) | (with_reducible refine Kd.C_drew ?_))); (case side2 => exact HC113.out); (case side3 => exact GW.below HGW.out xB); rintro e w22 ⟨rfl, hb⟩; refine ⟨_, rfl, ?_⟩; replace HB := Aside0.mk (below_step xB hb); (try clear hb)))
    (try simp only [Act.put, z1, z2, z3])
    go_cut [85] (fun v85 wc => ∃ (kq : Nat) (x85_17 : Bool), v85 = .bool x85_17 ∧ Aside0 (armadalaw11_EditAll.j1 kq l1 a2 t107 t108 t109 t114 t115 t116 x85_17 = some r) ∧ Aside0 (kq ≤ kj3) ∧ Aside0 (Below w.heap.size w wc))
    case first =>
     have H := HC18.out; clear HC18; replace H := xJ H; rcases H with ⟨c23, H⟩ | ⟨c23, H⟩
     ·
      have c23b0 := beq_iff_eq.mpr c23; have c23b1 := bne_eq_false_iff_eq.mpr c23; clear c23
      (first | rw [c23b0] | (simp only [i64_w, i32_w]; rw [c23b0]) | skip)
      replace H := xJ H; rcases H with ⟨c24, H⟩ | ⟨c24, H⟩
      ·
       have c24b0 := beq_iff_eq.mpr c24; have c24b1 := bne_eq_false_iff_eq.mpr c24; clear c24; replace H := xJ H; rcases H with ⟨c25, H⟩ | ⟨c25, H⟩
       ·
        have c25b0 := beq_iff_eq.mpr c25; have c25b1 := bne_eq_false_iff_eq.mpr c25; clear c25; have H' := Aside0.mk H; clear H; go_wp2; go_meet
        case rel => exact ⟨_, ((t116 != 0)), xR, H', ⟨by have := HJ3.out; first | omega | exact Nat.le_refl _⟩, ⟨xB⟩⟩
       have c25b0 := beq_eq_false_iff_ne.mpr c25; have c25b1 := bne_iff_ne.mpr c25; have H' := Aside0.mk H; clear H; go_wp2; go_meet
       case rel => exact ⟨_, (false), xR, H', ⟨by have := HJ3.out; first | omega | exact Nat.le_refl _⟩, ⟨xB⟩⟩
      have c24b0 := beq_eq_false_iff_ne.mpr c24; have c24b1 := bne_iff_ne.mpr c24; have H' := Aside0.mk H; clear H; go_wp2; go_meet
      case rel => exact ⟨_, (true), xR, H', ⟨by have := HJ3.out; first | omega | exact Nat.le_refl _⟩, ⟨xB⟩⟩
     have c23b0 := beq_eq_false_iff_ne.mpr c23; have c23b1 := bne_iff_ne.mpr c23
     (first | rw [c23b0] | (simp only [i64_w, i32_w]; rw [c23b0]) | skip)
     have H' := Aside0.mk H; clear H; go_wp2; go_meet
     case rel => exact ⟨_, (true), xR, H', ⟨by have := HJ3.out; first | omega | exact Nat.le_refl _⟩, ⟨xB⟩⟩
    case rest =>
     clear HC18
     try clear c1
     try clear c2
     try clear p2
     try clear q2
     try clear c5
     try clear c5b0
     try clear c5b1
     try clear c6
     try clear c7
     try clear c8
     try clear c8b0
     try clear c9
     try clear c13
     try clear c13b0
     try clear c13b1
     try clear c15
     try clear c15b0
     try clear c15b1
     try clear c16
     try clear c16b0
     try clear c16b1
     try clear c20
     try clear q21
     try clear c23
     try clear c23b0
     try clear c23b1
     try clear c24
     try clear c24b0
     try clear c24b1
     try clear c25
     try clear c25b0
     try clear c25b1
     try clear p2
     try clear q21
     obtain ⟨kq, x85_17, rfl, HA, HJ17, HB⟩ := hcut
     cases kq with
     | zero => exact absurd HA.out (by simp [armadalaw11_EditAll.j1])
     | succ kj17 =>
      have H := HA.out; clear HA; simp only [armadalaw11_EditAll.j1] at H
      by_cases c26 : x85_17 = true
      ·
       subst c26; rw [if_pos rfl] at H; exact absurd ((Option.some.inj H).trans HTRU_.out) (by decide)
      replace c26 := Bool.eq_false_iff.mpr c26; subst c26; rw [if_neg (show ¬ (false = true) by decide)] at H; replace H := xJ H; rcases H with ⟨c27, H⟩ | ⟨c27, H⟩
      ·
       have c27b0 := beq_iff_eq.mpr c27; have c27b1 := bne_eq_false_iff_eq.mpr c27; clear c27; replace H := xI H; obtain ⟨c28, H⟩ := H; have c28b0 := eq_true c28; have c28b1 := decide_eq_true c28; clear c28; replace H := xI H; obtain ⟨c29, H⟩ := H; have c29b0 := eq_true c29; have c29b1 := decide_eq_true c29; clear c29; obtain ⟨y117, hy117⟩ : ∃ y_ : List (S25), y_ = (l1.drop (a2 : Int).toNat) := ⟨_, rfl⟩
       replace H : ((edit_All.f t114 y117).bind fun bt121 => (if bt121.1.toList = t107.toList then (if t109 = bt121.2.2 then (if t109 = 0 then (if t108 = (wrap64 (t115 + bt121.2.1)) then ((armadalaw11_live.f).bind fun t124 => (some t124)) else (some false)) else ((armadalaw11_live.f).bind fun t125 => (some t125))) else (some false)) else (some false))) = some r := by first | (rw [hy117]; with_reducible exact H) | (have H2_ := (Option.bind_some _ _).symm.trans H; rw [hy117]; with_reducible exact H2_) | (have H2_ := (Option.bind_some _ _).symm.trans H; with_reducible exact H2_) | with_reducible exact H | (rw [hy117]; exact H) | exact H
       have Ny117 := Aside0.mk hy117; clear hy117; replace H := Option.bind_eq_some_iff.mp H; obtain ⟨⟨t121, t122, t123⟩, A300, H⟩ := H; replace H : (if t121.toList = t107.toList then (if t109 = t123 then (if t109 = 0 then (if t108 = (wrap64 (t115 + t122)) then ((armadalaw11_live.f).bind fun t124 => (some t124)) else (some false)) else ((armadalaw11_live.f).bind fun t125 => (some t125))) else (some false)) else (some false)) = some r := H; have A30 := Aside0.mk A300; clear A300; replace H := xJ H; rcases H with ⟨c31, H⟩ | ⟨c31, H⟩
       ·
        have c31b0 := beq_iff_eq.mpr c31; have c31b1 := bne_eq_false_iff_eq.mpr c31; clear c31; replace H := xJ H; rcases H with ⟨c32, H⟩ | ⟨c32, H⟩
        ·
         have c32b0 := beq_iff_eq.mpr c32; have c32b1 := bne_eq_false_iff_eq.mpr c32; clear c32; replace H := xJ H; rcases H with ⟨c33, H⟩ | ⟨c33, H⟩
         ·
          have c33b0 := beq_iff_eq.mpr c33; have c33b1 := bne_eq_false_iff_eq.mpr c33; clear c33; replace H := xJ H; rcases H with ⟨c34, H⟩ | ⟨c34, H⟩
          ·
           have c34b0 := beq_iff_eq.mpr c34; have c34b1 := bne_eq_false_iff_eq.mpr c34; clear c34; replace H := xb H; obtain ⟨t124, A35, H⟩ := H; obtain rfl := Option.some.inj H; have q36 : (a2 : Int) ≤ ((l1.length : Int) : Int) := xD; obtain ⟨i036, hi036, _, hsz36, _⟩ := info_parts info25; have hroom36 : l1.length ≤ c1 := HC1.out; have hC36 : Kd.C k25 _ A1 l1.length l1 := HR1.out; have q036 : (0 : Int) ≤ (a2 : Int) := xD; have hcut36 := cut_from (P := Tryz.prog) 27 25 .i64 Tryz.underlying27 hi036 6 hsz36 A1 l1.length c1 a2 q036 q36; have hr36 := Kd.C_drop (m := (a2 : Int).toNat) (c := c1) hC36 (by omega) hroom36; obtain ⟨A36, hA36⟩ : ∃ A1z_, A1z_ = (if c1 = (a2 : Int).toNat then A1 else (A1 : Option Addr).map (·.add ((a2 : Int).toNat * 6))) := ⟨_, rfl⟩; obtain ⟨c36, hc36⟩ : ∃ c1z_, c1z_ = c1 - (a2 : Int).toNat := ⟨_, rfl⟩; have hy36 : y117.length = l1.length - (a2 : Int).toNat := (by rw [Ny117.out, List.length_drop] <;> omega); rw [show (l1).drop (a2 : Int).toNat = y117 from Ny117.out.symm] at hr36; replace hr36 : Kd.C k25 _ A36 y117.length y117 := (by rw [hA36]; exact hr36); rw [← hy36, ← hA36, ← hc36] at hcut36; have HR120 := Aside0.mk hr36; have HC120 := Aside0.mk (show y117.length ≤ c36 from by rw [hy36, hc36]; exact Nat.sub_le_sub_right hroom36 _); clear hr36 hC36 hroom36 hi036 hsz36 hc36; have KY36 := Aside0.mk hy36; have KA36 := Aside0.mk hA36; clear hy36 hA36; replace q36 := eq_true q36; go_wp2_with (first | ((with_reducible refine gate_callee (f := 20) rfl ?_); refine goesL_ (some 102) rfl rfl Tryz.func20 (by kernel_rfl) rfl #[.string t114, .slice A36 y117.length c36] rfl xS ?_; (with_reducible refine (edit_All.calls t114 _ _ y117 t121 t122 t123 _ ?side1 ?side2 ?side3 A30.out).mono ?_); (case side1 => repeat (first | exact (Kd.C_below HR120.out HB.out) | (with_reducible refine Kd.C_alloc ?_ _) | (with_reducible refine Kd.C_drewN ?_ _) | (with_reducible refine Kd.C_drew ?_))); (case side2 => exact HC120.out); (case side3 => exact GW.below HGW.out xB); rintro e w37 ⟨rfl, hb⟩; refine ⟨_, rfl, ?_⟩; replace HB := Aside0.mk (below_step xB hb); (try clear hb)) | (go_at_call 13; (with_reducible refine (armadalaw11_live.calls  t124 _ ?side1 ?side2 A35.out).mono ?_); (case side1 => exact GW.below HGW.out xB); (case side2 => exact HTRU_.out); rintro e w38 ⟨rfl, hb⟩; replace HB := Aside0.mk (below_step xB hb); (try clear hb))); go_ret; exact ⟨xW, xB⟩
          have c34b0 := beq_eq_false_iff_ne.mpr c34; have c34b1 := bne_iff_ne.mpr c34; exact absurd ((Option.some.inj H).trans HTRU_.out) (by decide)
         have c33b0 := beq_eq_false_iff_ne.mpr c33; have c33b1 := bne_iff_ne.mpr c33; replace H := xb H; obtain ⟨t125, A39, H⟩ := H; obtain rfl := Option.some.inj H; have q40 : (a2 : Int) ≤ ((l1.length : Int) : Int) := xD; obtain ⟨i040, hi040, _, hsz40, _⟩ := info_parts info25; have hroom40 : l1.length ≤ c1 := HC1.out; have hC40 : Kd.C k25 _ A1 l1.length l1 := HR1.out; have q040 : (0 : Int) ≤ (a2 : Int) := xD; have hcut40 := cut_from (P := Tryz.prog) 27 25 .i64 Tryz.underlying27 hi040 6 hsz40 A1 l1.length c1 a2 q040 q40; have hr40 := Kd.C_drop (m := (a2 : Int).toNat) (c := c1) hC40 (by omega) hroom40; obtain ⟨A40, hA40⟩ : ∃ A1z_, A1z_ = (if c1 = (a2 : Int).toNat then A1 else (A1 : Option Addr).map (·.add ((a2 : Int).toNat * 6))) := ⟨_, rfl⟩; obtain ⟨c40, hc40⟩ : ∃ c1z_, c1z_ = c1 - (a2 : Int).toNat := ⟨_, rfl⟩; have hy40 : y117.length = l1.length - (a2 : Int).toNat := (by rw [Ny117.out, List.length_drop] <;> omega); rw [show (l1).drop (a2 : Int).toNat = y117 from Ny117.out.symm] at hr40; replace hr40 : Kd.C k25 _ A40 y117.length y117 := (by rw [hA40]; exact hr40); rw [← hy40, ← hA40, ← hc40] at hcut40; have HR120 := Aside0.mk hr40; have HC120 := Aside0.mk (show y117.length ≤ c40 from by rw [hy40, hc40]; exact Nat.sub_le_sub_right hroom40 _); clear hr40 hC40 hroom40 hi040 hsz40 hc40; have KY40 := Aside0.mk hy40; have KA40 := Aside0.mk hA40; clear hy40 hA40; replace q40 := eq_true q40; go_wp2_with (first | ((with_reducible refine gate_callee (f := 20) rfl ?_); refine goesL_ (some 102) rfl rfl Tryz.func20 (by kernel_rfl) rfl #[.string t114, .slice A40 y117.length c40] rfl xS ?_; (with_reducible refine (edit_All.calls t114 _ _ y117 t121 t122 t123 _ ?side1 ?side2 ?side3 A30.out).mono ?_); (case side1 => repeat (first | exact (Kd.C_below HR120.out HB.out) | (with_reducible refine Kd.C_alloc ?_ _) | (with_reducible refine Kd.C_drewN ?_ _) | (with_reducible refine Kd.C_drew ?_))); (case side2 => exact HC120.out); (case side3 => exact GW.below HGW.out xB); rintro e w41 ⟨rfl, hb⟩; refine ⟨_, rfl, ?_⟩; replace HB := Aside0.mk (below_step xB hb); (try clear hb)) | (go_at_call 13; (with_reducible refine (armadalaw11_live.calls  t125 _ ?side1 ?side2 A39.out).mono ?_); (case side1 => exact GW.below HGW.out xB); (case side2 => exact HTRU_.out); rintro e w42 ⟨rfl, hb⟩; replace HB := Aside0.mk (below_step xB hb); (try clear hb))); go_ret; exact ⟨xW, xB⟩
        have c32b0 := beq_eq_false_iff_ne.mpr c32; have c32b1 := bne_iff_ne.mpr c32; exact absurd ((Option.some.inj H).trans HTRU_.out) (by decide)
       have c31b0 := beq_eq_false_iff_ne.mpr c31; have c31b1 := bne_iff_ne.mpr c31; exact absurd ((Option.some.inj H).trans HTRU_.out) (by decide)
      have c27b0 := beq_eq_false_iff_ne.mpr c27; have c27b1 := bne_iff_ne.mpr c27; replace H := xJ H; rcases H with ⟨c43, H⟩ | ⟨c43, H⟩
      ·
       have c43b0 := beq_iff_eq.mpr c43; have c43b1 := bne_eq_false_iff_eq.mpr c43; clear c43; replace H := xJ H; rcases H with ⟨c44, H⟩ | ⟨c44, H⟩
       ·
        have c44b0 := beq_iff_eq.mpr c44; have c44b1 := bne_eq_false_iff_eq.mpr c44; clear c44; replace H := xb H; obtain ⟨t126, A45, H⟩ := H; obtain rfl := Option.some.inj H; go_wp2_with (first | (go_at_call 13; (with_reducible refine (armadalaw11_live.calls  t126 _ ?side1 ?side2 A45.out).mono ?_); (case side1 => exact GW.below HGW.out xB); (case side2 => exact HTRU_.out); rintro e w46 ⟨rfl, hb⟩; replace HB := Aside0.mk (below_step xB hb); (try clear hb))); go_ret; exact ⟨xW, xB⟩
       have c44b0 := beq_eq_false_iff_ne.mpr c44; have c44b1 := bne_iff_ne.mpr c44; exact absurd ((Option.some.inj H).trans HTRU_.out) (by decide)
      have c43b0 := beq_eq_false_iff_ne.mpr c43; have c43b1 := bne_iff_ne.mpr c43; exact absurd ((Option.some.inj H).trans HTRU_.out) (by decide)
   have c13b0 := beq_eq_false_iff_ne.mpr c13; have c13b1 := bne_iff_ne.mpr c13; replace H := xJ H; rcases H with ⟨c47, H⟩ | ⟨c47, H⟩
   ·
    have c47b0 := beq_iff_eq.mpr c47; have c47b1 := bne_eq_false_iff_eq.mpr c47; clear c47; replace H := xJ H; rcases H with ⟨c48, H⟩ | ⟨c48, H⟩
    ·
     have c48b0 := beq_iff_eq.mpr c48; have c48b1 := bne_eq_false_iff_eq.mpr c48; clear c48; replace H := xb H; obtain ⟨t106, A49, H⟩ := H; obtain rfl := Option.some.inj H; go_wp2_with (first | ((with_reducible refine gate_callee (f := 20) rfl ?_); refine goesL_ (some 40) rfl rfl Tryz.func20 (by kernel_rfl) rfl #[.string a0, .slice none 0 0] rfl xS ?_; (refine (edit_All.calls a0 _ _ ([] : List (S25)) t103 t104 t105 _ ?side1 ?side2 ?side3 A12.out).mono ?_); (case side1 => exact Kd.C_nil _ _); (case side2 => exact Nat.le_refl _); (case side3 => exact GW.below HGW.out xB); rintro e w50 ⟨rfl, hb⟩; refine ⟨_, rfl, ?_⟩; replace HB := Aside0.mk (below_step xB hb); (try clear hb)) | (go_at_call 13; (with_reducible refine (armadalaw11_live.calls  t106 _ ?side1 ?side2 A49.out).mono ?_); (case side1 => exact GW.below HGW.out xB); (case side2 => exact HTRU_.out); rintro e w51 ⟨rfl, hb⟩; replace HB := Aside0.mk (below_step xB hb); (try clear hb))); go_ret; exact ⟨xW, xB⟩
    have c48b0 := beq_eq_false_iff_ne.mpr c48; have c48b1 := bne_iff_ne.mpr c48; exact absurd ((Option.some.inj H).trans HTRU_.out) (by decide)
   have c47b0 := beq_eq_false_iff_ne.mpr c47; have c47b1 := bne_iff_ne.mpr c47; exact absurd ((Option.some.inj H).trans HTRU_.out) (by decide)
end Go.Proofs.YtmbpefnhkimplaaGreatDoor.LAll
end

section
namespace Go.Proofs.YtmbpefnhkimplaaGreatDoor.LAll
open Go.RowKit Go.Proofs.YtmbpefnhkimplaaGreatDoor Go.Proofs.YtmbpefnhkimplaaGreatDoor.K0 Go.Proofs.YtmbpefnhkimplaaGreatDoor.RS Go.Proofs.YtmbpefnhkimplaaGreatDoorW.PrintWords Go.Proofs.YtmbpefnhkimplaaGreatDoorW.PrintLast Go.Proofs.YtmbpefnhkimplaaGreatDoorW.PrintMore
attribute [local go_sem] max2_int min2_int max_two min_two max_three min_three max_four min_four
set_option linter.unusedVariables false
set_option linter.unusedSimpArgs false
end Go.Proofs.YtmbpefnhkimplaaGreatDoor.LAll
end

section
namespace Go.Proofs.YtmbpefnhkimplaaGreatDoor
open Go Go.RowKit Go.Proofs Go.Proofs.YtmbpefnhkimplaaGreatDoorW.PrintWords Go.Proofs.YtmbpefnhkimplaaGreatDoor.K0 Go.Proofs.YtmbpefnhkimplaaGreatDoor.RS Go.Proofs.YtmbpefnhkimplaaGreatDoor.LAll
set_option linter.unusedVariables false
set_option linter.unusedSimpArgs false
theorem allG_app : ∀ (l1 l2 : List Rq) (s : ByteArray) (m : Int), allG s m (l1 ++ l2) = if (allG s m l1).2.2 ≠ 0 then allG s m l1 else allG (allG s m l1).1 (allG s m l1).2.1 l2
  | [], l2, s, m => by rw [List.nil_append, allG, if_neg (by simp)]
  | r :: l1, l2, s, m => by
    rw [List.cons_append, allG, allG]
    by_cases h1 : (whereP s r.f0).2.2 = false
    · rw [if_pos h1, if_pos h1]; exact allG_app l1 l2 s m
    · rw [if_neg h1, if_neg h1]
      by_cases h2 : (setP s r).2 ≠ 0
      · rw [if_pos h2, if_pos h2, if_pos h2]
      · rw [if_neg h2, if_neg h2]; exact allG_app l1 l2 _ _
theorem allG_err : ∀ {l : List Rq} {s : ByteArray} {m : Int}, (allG s m l).2.2 ≠ 0 → (allG s m l).1 = ⟨#[]⟩ ∧ (allG s m l).2.1 = 0
  | [], s, m, h => absurd rfl h
  | r :: l, s, m, h => by
    rw [allG] at h ⊢
    by_cases h1 : (whereP s r.f0).2.2 = false
    · rw [if_pos h1] at h ⊢; exact allG_err h
    · rw [if_neg h1] at h ⊢
      by_cases h2 : (setP s r).2 ≠ 0
      · rw [if_pos h2]; exact ⟨rfl, rfl⟩
      · rw [if_neg h2] at h ⊢; exact allG_err h
theorem allG_shift : ∀ (l : List Rq) (s : ByteArray) (m c : Int), (allG s (m + c) l).1 = (allG s m l).1 ∧ (allG s (m + c) l).2.2 = (allG s m l).2.2 ∧ ((allG s m l).2.2 = 0 → (allG s (m + c) l).2.1 = (allG s m l).2.1 + c)
  | [], s, m, c => ⟨rfl, rfl, fun _ => rfl⟩
  | r :: l, s, m, c => by
    rw [allG, allG]
    by_cases h1 : (whereP s r.f0).2.2 = false
    · rw [if_pos h1, if_pos h1]; exact allG_shift l s m c
    · rw [if_neg h1, if_neg h1]
      by_cases h2 : (setP s r).2 ≠ 0
      · rw [if_pos h2, if_pos h2]; exact ⟨rfl, rfl, fun h => absurd h h2⟩
      · rw [if_neg h2, if_neg h2, show m + c + 1 = m + 1 + c by omega]; exact allG_shift l _ _ c
theorem allG_ok : ∀ {l : List Rq} {s : ByteArray} {m : Int}, s.size + 100 * l.length ≤ 390000 → (maniP s).2.2 = 0 → (allG s m l).2.2 = 0 → (maniP (allG s m l).1).2.2 = 0 ∧ (allG s m l).1.size ≤ s.size + 100 * l.length ∧ m ≤ (allG s m l).2.1 ∧ (allG s m l).2.1 ≤ m + l.length
  | [], s, m, _, h, _ => ⟨h, Nat.le_refl _, Int.le_refl _, by show m ≤ m + ((0 : Nat) : Int); omega⟩
  | r :: l, s, m, hs, hm, h => by
    simp only [List.length_cons] at hs ⊢
    rw [allG] at h ⊢
    by_cases h1 : (whereP s r.f0).2.2 = false
    · rw [if_pos h1] at h ⊢
      obtain ⟨g1, g2, g3, g4⟩ := allG_ok (by omega) hm h
      exact ⟨g1, by omega, g3, by omega⟩
    · rw [if_neg h1] at h ⊢
      by_cases h2 : (setP s r).2 ≠ 0
      · rw [if_pos h2] at h; exact absurd h h2
      · rw [if_neg h2] at h ⊢
        have h2 := Decidable.not_not.1 h2
        have hz := setP_size s (by omega) r
        obtain ⟨hr, x, n, r0, A, B, hat, e0⟩ := set_ok (by omega) h2
        obtain ⟨x', hm', _⟩ := hat.sim (by omega) hr e0
        obtain ⟨g1, g2, g3, g4⟩ := allG_ok (s := (setP s r).1) (m := m + 1) (l := l) (by omega) (maniP_of hm') h
        exact ⟨g1, by omega, by omega, by omega⟩
theorem all_f {s : ByteArray} {l : List Rq} (hl : l.length ≤ 20) (hs : s.size ≤ 10000) (hr : ∀ r ∈ l, r.f0.size ≤ 200) : edit_All.f s l = some (allP s l) := by
  unfold edit_All.f; rw [if_pos ⟨by omega, by omega, fun r h => Nat.le_trans (hr r h) (by decide)⟩]
theorem nil_toList : (⟨#[]⟩ : ByteArray).toList = [] := by rw [ByteArray.toList_eq]
theorem all_j1 (s : ByteArray) (l : List Rq) (c k : Nat) (hs : s.size ≤ 3000) (hl : l.length ≤ 20) (hr : ∀ r ∈ l, r.f0.size ≤ 200) (hc : c ≤ l.length) (hm : (maniP s).2.2 = 0) :
    armadalaw11_EditAll.j1 (k + 1) l (c : Int) (allP s l).1 (allP s l).2.1 (allP s l).2.2 (allP s (l.take c)).1 (allP s (l.take c)).2.1 (allP s (l.take c)).2.2 false = some true := by
  have e1 : ∀ l', allP s l' = allG s 0 l' := fun l' => by unfold allP; rw [if_neg (by rw [hm]; simp)]
  have happ := allG_app (l.take c) (l.drop c) s 0
  rw [List.take_append_drop] at happ
  have htl : (l.take c).length ≤ l.length := by rw [List.length_take]; omega
  rw [armadalaw11_EditAll.j1, if_neg (by simp), e1, e1]
  by_cases hg : (allG s 0 (l.take c)).2.2 = 0
  · rw [if_pos hg, if_pos (by omega), if_pos (by omega)]
    obtain ⟨g1, g2, g3, g4⟩ := allG_ok (s := s) (m := 0) (l := l.take c) (by omega) hm hg
    rw [show ((c : Int)).toNat = c by omega, all_f (by rw [List.length_drop]; omega) (by omega) (fun r h => hr r (List.mem_of_mem_drop h))]
    simp only [Option.bind_some]
    have e2 : allP (allG s 0 (l.take c)).1 (l.drop c) = allG (allG s 0 (l.take c)).1 0 (l.drop c) := by unfold allP; rw [if_neg (by rw [g1]; simp)]
    rw [e2]
    rw [if_neg (by rw [hg]; simp)] at happ
    obtain ⟨k1, k2, k3⟩ := allG_shift (l.drop c) (allG s 0 (l.take c)).1 0 (allG s 0 (l.take c)).2.1
    rw [Int.zero_add] at k1 k2 k3
    rw [happ, if_pos (by rw [k1]), if_pos (by rw [k2])]
    by_cases hf : (allG (allG s 0 (l.take c)).1 (allG s 0 (l.take c)).2.1 (l.drop c)).2.2 = 0
    · rw [if_pos hf]
      rw [k2] at hf
      obtain ⟨i1, i2, i3, i4⟩ := allG_ok (s := (allG s 0 (l.take c)).1) (m := 0) (l := l.drop c) (by rw [List.length_drop]; omega) g1 hf
      rw [List.length_drop] at i4
      rw [if_pos (by rw [k3 hf, wrap_id (by omega) (by omega)]; omega)]
      rfl
    · rw [if_neg hf]; rfl
  · rw [if_neg hg]
    rw [if_pos hg] at happ
    obtain ⟨k1, k2⟩ := allG_err hg
    rw [happ, k1, k2, if_pos nil_toList, if_pos rfl]
    rfl
theorem all_j0 (s : ByteArray) (l : List Rq) (c k : Nat) (hs : s.size ≤ 3000) (hl : l.length ≤ 20) (hr : ∀ r ∈ l, r.f0.size ≤ 200) (hc : c ≤ l.length) : armadalaw11_EditAll.j0 (k + 2) s l (c : Int) false = some true := by
  rw [armadalaw11_EditAll.j0, if_neg (by simp), all_f (l := []) (by decide) (by omega) (fun _ h => by cases h)]
  simp only [Option.bind_some]
  by_cases hm : (maniP s).2.2 = 0
  · have e0 : allP s [] = (s, 0, 0) := by unfold allP; rw [if_neg (by rw [hm]; simp)]; rfl
    have e1 : ∀ l', allP s l' = allG s 0 l' := fun l' => by unfold allP; rw [if_neg (by rw [hm]; simp)]
    rw [e0, if_pos rfl, all_f hl (by omega) hr]
    simp only [Option.bind_some]
    rw [if_pos (by omega), if_pos (by omega), show ((c : Int)).toNat = c by omega, all_f (by rw [List.length_take]; omega) (by omega) (fun r h => hr r (List.mem_of_mem_take h))]
    simp only [Option.bind_some]
    rw [if_pos trivial, if_pos trivial]
    have happ := allG_app (l.take c) (l.drop c) s 0
    rw [List.take_append_drop] at happ
    by_cases hf : (allP s l).2.2 = 0
    · rw [if_pos hf]
      have hg : (allP s (l.take c)).2.2 = 0 := by
        rw [e1] at hf ⊢
        by_cases hg : (allG s 0 (l.take c)).2.2 = 0
        · exact hg
        · rw [happ, if_pos hg] at hf; exact absurd hf hg
      rw [show ((allP s (l.take c)).2.2 != 0) = false by rw [hg]; rfl]
      exact all_j1 s l c k hs hl hr hc hm
    · rw [if_neg hf]
      exact all_j1 s l c k hs hl hr hc hm
  · have e0 : allP s [] = (⟨#[]⟩, 0, (maniP s).2.2) := by unfold allP; rw [if_pos hm]
    rw [e0, if_neg hm]
    show (if (⟨#[]⟩ : ByteArray).toList = [] then _ else _) = _
    rw [if_pos nil_toList]
    rfl
theorem all_pure (s : ByteArray) (l : List Rq) (c : Int) (hl : l.length ≤ 9223372036854775807) : ∃ k, armadalaw11_EditAll.f k s l c = some true := by
  refine ⟨l.length + 2, ?_⟩
  unfold armadalaw11_EditAll.f
  have hlv : ∀ c, armadalaw11_EditAll.j0 (l.length + 2) s l c true = some true := fun c => by rw [armadalaw11_EditAll.j0, if_pos rfl]; rfl
  by_cases hs : (s.size : Int) > 3000
  · rw [if_pos hs]; exact hlv c
  · rw [if_neg hs]
    obtain ⟨b, h1, h2⟩ := few_f l hl (l.length + 2) (by omega)
    rw [h1]
    simp only [Option.bind_some]
    cases b with
    | false => rw [if_neg (by simp)]; exact hlv c
    | true =>
      rw [if_pos rfl]
      obtain ⟨h3, h4⟩ := h2 rfl
      by_cases hc : c < 0
      · rw [if_pos hc]; exact hlv c
      · rw [if_neg hc]
        by_cases hc2 : c > (l.length : Int)
        · rw [decide_eq_true hc2]; exact hlv c
        · rw [decide_eq_false hc2]
          have := all_j0 s l c.toNat l.length (by omega) h3 h4 (by omega)
          rwa [show ((c.toNat : Nat) : Int) = c by omega] at this
end Go.Proofs.YtmbpefnhkimplaaGreatDoor
end

section
namespace Go.Proofs.YtmbpefnhkimplaaGreatDoor
open Go Go.ChangeShapes Go.WideShapes Go.ChangeAt Go.RowKit Go.Joins Go.Deep Go.Proofs.YtmbpefnhkimplaaGreatDoor.LAll
set_option linter.unusedVariables false
set_option maxRecDepth 100000 in
theorem editAll_lifted (os : Os) (started : os.Started) (H : Type) (enc : TypeId × Value → H) :
    ReturnsInHanded {} Tryz.checked os 6 .any (fun w args => (Rows.editAllSpec.pre enc Tryz.prog Tryz.f6 Rows.editAllRow.domain false w args ∧ laidMetH Tryz.prog Rows.editAllRow.laid w) ∧ sizedMet enc Tryz.prog Tryz.f6 (OpenSpec.ofChange Rows.editAllSpec) false w args)
      (Rows.editAllSpec.post enc Tryz.prog Tryz.f6 false true false false) := by
  refine lifted_of (C := Tryz.checked) (tb := 4) laidOut rfl own started (by kernel_rfl) Tryz.func6 (by kernel_rfl) (by kernel_rfl) Tryz.underlying4 ?_
    (ChangeSpec.witness_shaped (enc := enc) (C := Tryz.checked) (os := os) (X := fun w _ => laidMetH Tryz.prog Rows.editAllRow.laid w) false (laidHW os Rows.editAllRow.laid) #[.string ⟨#[]⟩, .slice none 0 0, .int .i64 0] 8 (laidHW_os _ _)
      (World.shaped_of_ZipB (by kernel_rfl) (by kernel_rfl)) (by kernel_rfl) (by kernel_rfl) (by kernel_rfl)
      (laidHW_met _ (by kernel_rfl) (by kernel_rfl) (by kernel_rfl))) ?_
  · intro ds hd
    match ds, hd.trans (show Tryz.f6.params.size = 3 by kernel_rfl) with
    | [_, _, _], _ => rfl
  · intro W base args ds ps hval0 hA0 hz hsh hL
    have hval : ∀ (j : Nat) t v, Tryz.f6.params[j]? = some t → args[j]? = some v → Value.okWide Tryz.prog W .any base t v := hval0
    have hA : DataW.TrodAll enc Tryz.prog W 0 (fun _ => true) true Tryz.f6.params.toList args.toList ds ps := hA0
    rw [Tryz.params6] at hA hval
    obtain ⟨v0, v1, v2, d0, d1, d2, p0, p1, p2, rfl, rfl, rfl, h0, h1, h2⟩ := trodAll_three hA
    obtain ⟨x0, rfl, rfl, rfl, _⟩ := ChangeMaps.open_string Tryz.underlying9 (hval 0 9 v0 rfl rfl) h0
    obtain ⟨A1, c1, x1, rfl, hc1, hr1⟩ := arg_reqs (hval 1 27 v1 rfl rfl) h1
    obtain ⟨x2, rfl, rfl, rfl, _⟩ := open_int Tryz.underlying3 (hval 2 3 v2 rfl rfl) h2
    obtain ⟨k, hk⟩ := all_pure x0 x1 x2 hr1.2.1
    exact armadalaw11_EditAll.calls k x0 A1 c1 x1 x2 true W hr1 hc1 (gw_of hsh hL) rfl hk
theorem editAll_holds : Rows.EditAllSaid :=
  OpenClaim.holds_of_wide 6 Tryz.f6 rfl rfl rfl rfl rfl rfl rfl ⟨rfl, rfl, rfl, rfl, rfl⟩ rfl rfl rfl rfl rfl (by kernel_rfl) Tryz.func6 (by kernel_rfl)
    (of_decide_eq_true (by kernel_rfl)) (by unfold Func.isWrapper; first | (rw [if_pos (by decide +kernel)]; kernel_rfl) | (rw [if_neg (by decide +kernel)]; exact ⟨rfl, rfl⟩))
    (fun os started H enc _ => editAll_lifted os started H enc)
theorem editAll_card : Rows.EditAllCardSaid :=
  Claim7.holds_tied_plain_at .later [] [.data, .data, .data, .data, .handle, .sentinel, .sentinel, .pinned] true (true, "496dd1483d0bda906c37f8e0f85f4c660e19dc15adcc1c3e15d43ef483c9624e") true editAll_holds (fun _ h => by cases h) (by kernel_rfl) (fun _ h => by cases h) editAll_row_tie rfl ⟨rfl, rfl⟩ (by kernel_rfl) rfl
    (fun f fn hf hfn => by
      obtain rfl : f = 6 := Option.some.inj ((show Tryz.prog.funcNamed "armada/armadalaw11.EditAll" = some 6 by kernel_rfl).symm.trans hf) |>.symm
      obtain rfl : fn = Tryz.f6 := (Option.some.inj (Tryz.func6.symm.trans hfn)).symm
      exact ⟨by kernel_rfl, fun j t ht => by
        rw [Tryz.params6] at ht
        have hm : t ∈ [9, 27, 3] := by simpa using Array.mem_of_getElem? ht
        have hall : ([9, 27, 3].all fun u => !Tryz.prog.wantsStandIn u) = true := by kernel_rfl
        exact (show Tryz.prog.wantsStandIn t = false by simpa using List.all_eq_true.1 hall t hm)⟩)
    (by kernel_rfl)
#print axioms editAll_card
end Go.Proofs.YtmbpefnhkimplaaGreatDoor
end
