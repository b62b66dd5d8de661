/- The law armadalaw18.BumpEdits answers true whatever case it is handed, and what it was handed reads as it did; its tied card holds.
   Conditions: those of the row and the card alone: the listed variables of Go's library hold what the program's own text lays in them. -/
import Derived.Test.YtillhaipemengaaGreatDoorZB5
import Derived.Test.YtillhaipemengaaGreatDoorTie
import Derived.Test.YtillhaipemengaaGreatDoorCards
import Derived.ProofKit
import Derived.OpenShut
import Derived.LaidMore
import Derived.Lay
import Derived.SevenTiedAt
import Derived.Stop.Joined
import Derived.Stop.LaidErr
import Derived.Carry
import Derived.Shelf.Vars
import Derived.Handed
import Derived.JoinedOf
import Derived.Test.YtillhaipemengaaGreatDoorZB6
import Derived.Test.YtillhaipemengaaGreatDoorZB38
import Derived.Test.YtillhaipemengaaGreatDoorZB42
import Derived.Test.YtillhaipemengaaGreatDoorZB4
import Derived.Test.YtillhaipemengaaGreatDoorZB43
import Derived.Test.YtillhaipemengaaGreatDoorZB44
import Derived.Lib.SmallJoins
section
namespace Go.Proofs.YtillhaipemengaaGreatDoor
open Go Go.ChangeShapes Go.WideShapes Go.ChangeAt Go.RowKit Go.Joins Go.Deep Go.Proofs.YtillhaipemengaaGreatDoorW.PrintWords
set_option linter.unusedVariables false
theorem own : ownKnob Tryz.prog.godebug = none := by kernel_rfl
theorem laidOut : laidOutB Tryz.prog = true := by kernel_rfl
section
variable {H : Type} {enc : TypeId × Value → H} {P : Program}
theorem trodAll_carry (hl : laidOutB P = true) {W W' : World} (hb : Below W.heap.size W W') : ∀ {ts : List TypeId} {vs : List Value} {ds : List (DataW H)} {ps : List MemPlace},
    (ts.all fun t => P.readableRec t && decide (t < P.types.size)) = true → DataW.TrodAll enc P W 0 (fun _ => true) true ts vs ds ps → ∀ sp : Nat → Bool, (∀ p ∈ ps, sp p.block = true) → DataW.TrodAll enc P W' 0 sp true ts vs ds ps
  | [], [], [], _, _, h, _, _ => h
  | [], [], _ :: _, _, _, h, _, _ => h.elim
  | [], _ :: _, _, _, _, h, _, _ => h.elim
  | _ :: _, [], _, _, _, h, _, _ => h.elim
  | _ :: _, _ :: _, [], _, _, h, _, _ => h.elim
  | t :: ts, v :: vs, d :: ds, ps, hr, h, sp, hs => by
    have hlt := h.lt
    obtain ⟨p, q, h1, h2, rfl⟩ := h
    simp only [List.all_cons, Bool.and_eq_true, decide_eq_true_eq] at hr
    exact ⟨p, q, WideElems.Trod_stays hl hr.1.1 hr.1.2 h1 (fun x hx => hb.same (hlt x (by simp [hx]))) (fun x hx => hs x (by simp [hx])),
      trodAll_carry hl hb (by simpa using hr.2) h2 sp (fun x hx => hs x (by simp [hx])), rfl⟩
theorem post_true {f : Func} {s : ChangeSpec} {W W' : World} {args : Array Value} {ds : List (DataW H)} {before : List MemPlace} {tb : TypeId} (hl : laidOutB P = true) (hv : s.vars = [])
    (hW : DataW.Whole enc P f.params.toList s.vars false W args.toList ds [] before) (hr : (f.params.toList.all fun t => P.readableRec t && decide (t < P.types.size)) = true)
    (hres : f.resultTypes = #[tb]) (hbool : P.underlying tb = some .bool) (hfn : s.fn H (ds ++ []) = { results := [.lit (.bool true)], args := ds }) (hb : Below W.heap.size W W') :
    s.post enc P f false true false false W args (.bool true) W' := by
  have hlt := hW.lt
  obtain ⟨p, q, hA, hV, hpq, hz, hn⟩ := hW
  have hq : q = [] := by rw [hv] at hV; exact hV
  subst hq
  rw [List.append_nil] at hpq
  subst hpq
  refine ⟨ds, [], before, [], before, [], ⟨before, [], hA, hV, (List.append_nil _).symm, hz, hn⟩, ?_, ?_, ?_, hb.frame _, fun h => by cases h⟩
  · rw [hfn, hres]
    exact trodAll_mk1 (shut_bool hbool _)
  · rw [hfn]
    exact trodAll_carry hl hb hr hA _ (fun x hx => by simpa using hlt x hx)
  · rw [hfn, hv]
    exact rfl
theorem lifted_of {C : Checked} {os : Os} {f : FuncId} {fn : Func} {s : ChangeSpec} {conds : List PathCond} {laid : List (String × DataW Unit)} {tb : TypeId} (hl : laidOutB C.prog = true) (hv : s.vars = [])
    (own : ownKnob C.prog.godebug = none) (started : os.Started) (noInit : C.prog.inits.idxOf? f = none) (hfn : C.prog.funcs[f]? = some fn)
    (hr : (fn.params.toList.all fun t => C.prog.readableRec t && decide (t < C.prog.types.size)) = true)
    (hres : fn.resultTypes = #[tb]) (hbool : C.prog.underlying tb = some .bool)
    (hspec : ∀ ds : List (DataW H), ds.length = fn.params.size → s.fn H (ds ++ []) = { results := [.lit (.bool true)], args := ds })
    (witness : ∃ (w : World) (tape : Tape) (i : Input), w.os = os ∧ (w.forCall tape i).Shaped C.prog ∧ i.vars = [] ∧ Input.okWide C.prog (w.forCall tape i) .any w.heap.size f i ∧
      ((s.pre enc C.prog fn conds false (w.forCall tape i).memory i.args ∧ laidMetH C.prog laid (w.forCall tape i).memory) ∧ sizedMet enc C.prog fn (OpenSpec.ofChange s) false (w.forCall tape i).memory i.args) ∧
      ({} : Assume).holds C.prog (lone (Frame.enter C.prog f i.args .normal) [] (w.forCall tape i)))
    (law : ∀ (W : World) (base : Nat) (args : Array Value) (ds : List (DataW H)) (ps : List MemPlace),
      (∀ (j : Nat) t v, fn.params[j]? = some t → args[j]? = some v → Value.okWide C.prog W .any base t v) →
      DataW.TrodAll enc C.prog W 0 (fun _ => true) true fn.params.toList args.toList ds ps →
      (DataW.weightsEach C.prog fn.params.toList ds).all (· ≤ reachBytes) = true →
      W.ShapedOpen C.prog → laidMetH C.prog laid W →
      Calls C.prog f args W fun e W' => e = .returned (.bool true) ∧ Below W.heap.size W W') :
    ReturnsInHanded {} C os f .any (fun w args => (s.pre enc C.prog fn conds false w args ∧ laidMetH C.prog laid w) ∧ sizedMet enc C.prog fn (OpenSpec.ofChange s) false w args) (s.post enc C.prog fn false true false false) := by
  refine returnsInHanded_of_calls own started noInit witness ?_
  intro w tape i _ hsh _ hok hpre hholds
  obtain ⟨_, _, _, fn', hfn', _, _, _, _, hval⟩ := hok
  have e : fn' = fn := Option.some.inj (hfn'.symm.trans hfn)
  subst e
  obtain ⟨⟨⟨ds, gs, before, hw, hc⟩, hx⟩, hz⟩ := hpre
  have hgs : gs = [] := by
    obtain ⟨_, _, _, hV, _⟩ := hw
    rw [hv] at hV
    cases gs with
    | nil => rfl
    | cons _ _ => exact hV.elim
  subst hgs
  have hw' := DataW.Whole.of_heap (w' := w.forCall tape i) (by rfl) hw
  have hz' := hz.weights hw
  obtain ⟨p, q, hA, _⟩ := hw'
  have hlen : ∀ {ts : List TypeId} {vs : List Value} {ds : List (DataW H)} {ps : List MemPlace}, DataW.TrodAll enc C.prog (w.forCall tape i) 0 (fun _ => true) true ts vs ds ps → ds.length = ts.length := by
    intro ts
    induction ts with
    | nil => intro vs ds ps h; cases vs <;> cases ds <;> first | rfl | exact h.elim
    | cons t ts ih =>
      intro vs ds ps h
      cases vs <;> cases ds <;> first | exact h.elim | skip
      obtain ⟨_, _, _, h2, _⟩ := h
      simp [ih h2]
  have hz2 : (DataW.weightsEach C.prog fn'.params.toList ds).all (· ≤ reachBytes) = true := by
    have e1 : (OpenSpec.ofChange s).bare.plain.varTypes C.prog = [] := by
      show s.plain.varTypes C.prog = []
      unfold DataSpec.varTypes ChangeSpec.plain
      simp [hv]
    rw [e1, List.append_nil, List.append_nil] at hz'
    exact hz'
  refine (law (w.forCall tape i) w.heap.size i.args ds p hval hA hz2 hsh (hx.of_heap (by rfl))).mono fun e W' ⟨he, hb⟩ => ?_
  subst he
  refine ChangeSpec.post_blind (post_true hl hv (DataW.Whole.of_heap (w' := w.forCall tape i) (by rfl) hw) hr hres hbool (hspec ds ?_) hb)
  rw [hlen hA]; simp
end
theorem laid_mem {P : Program} {W : World} {x : String × DataW Unit} : ∀ {l : List (String × DataW Unit)}, laidMet P l W → x ∈ l → ∃ r, laidMet P (x :: r) W
  | [], _, h => by cases h
  | y :: l, hl, h => by
    rcases List.mem_cons.1 h with rfl | h'
    · exact ⟨l, hl⟩
    · exact laid_mem hl.tail h'
theorem iface_var {P : Program} {W : World} {n nm : String} {d : DataW Unit} {r : List (String × DataW Unit)} {g : Nat} {ti : TypeId} {ms : Array (String × TypeId)} (h : laidMet P ((n, .iface nm d) :: r) W)
    (hg : P.globalNamed n = some g) (ht : (P.globals[g]?).map (·.type) = some ti) (hi : P.underlying ti = some (.interface ms)) : ∃ tp p, W.var? P n = some #[.iface tp p] := by
  obtain ⟨ps, ⟨g0, t0, cs0, f0, p0, q0, hg0, ht0, hv0, hd0, _, _⟩, _, _⟩ := h
  obtain rfl := Option.some.inj (hg.symm.trans hg0)
  obtain rfl := Option.some.inj (ht.symm.trans ht0)
  obtain ⟨l0⟩ := cs0
  cases f0 with
  | zero => cases hd0
  | succ f0 =>
    unfold DataW.trod at hd0
    rw [hi] at hd0
    split at hd0 <;> first
      | (rename_i h1 h2; cases h1; done)
      | skip
    all_goals first
      | (cases hd0; done)
      | (rename_i u v h1 h2; simp only at h2; subst h2; exact ⟨u, v, hv0⟩)
      | skip
    all_goals (rename_i h1; cases h1)
section
variable {H : Type} {enc : TypeId × Value → H} {P : Program} {w : World} {base : Nat} {spare : Nat → Bool} {held : Bool}
end
/-- What the row lists gives the walk's world. -/
theorem gw_of {W : World} (h : W.ShapedOpen Tryz.prog) (hl : laidMetH Tryz.prog Rows.bumpEditsRow.laid W) : GW W := by
  rw [MakeChecks.laidMetH_plain _ _ _ (by kernel_rfl)] at hl
  obtain ⟨_, h1⟩ := laid_mem (x := ("internal/strconv.uint64pow10", Rows.laid_internal_strconv_uint64pow10)) hl (by repeat (first | exact List.mem_cons_self .. | apply List.mem_cons_of_mem))
  obtain ⟨_, h2⟩ := laid_mem (x := ("strconv.ErrRange", Rows.laid_strconv_ErrRange)) hl (by repeat (first | exact List.mem_cons_self .. | apply List.mem_cons_of_mem))
  obtain ⟨_, h3⟩ := laid_mem (x := ("strconv.ErrSyntax", Rows.laid_strconv_ErrSyntax)) hl (by repeat (first | exact List.mem_cons_self .. | apply List.mem_cons_of_mem))
  exact {
    maxLen := cell_of_shapedOpen_int (P := Tryz.prog) (g := 0) (t := 3) (zero := #[.int .i64 0]) h (of_decide_eq_true (by kernel_rfl)) (by kernel_rfl) rfl (by kernel_rfl) (by kernel_rfl) Tryz.underlying3
    pow10 := Lib.tabIs_of_head (k := .u64) (zs := Lib.pow10Tab) (g := 5) (t := 219) (e := 191) (n := 20) (by kernel_rfl) (by kernel_rfl) (by kernel_rfl) (by kernel_rfl) (by kernel_rfl) (by kernel_rfl)
      (show laidMet _ ((_, Lib.tabData .u64 Lib.pow10Tab) :: _) _ from (show Rows.laid_internal_strconv_uint64pow10 = (Lib.tabData .u64 Lib.pow10Tab : DataW Unit) from by kernel_rfl) ▸ h1)
    errS := iface_var h3 (g := 1) (ti := 132) (by kernel_rfl) (by kernel_rfl) Tryz.underlying132
    errR := iface_var h2 (g := 2) (ti := 132) (by kernel_rfl) (by kernel_rfl) Tryz.underlying132 }
end Go.Proofs.YtillhaipemengaaGreatDoor
end

section
namespace Go.Proofs.YtillhaipemengaaGreatDoor.LEdits
open Go.RowKit Go.Proofs.YtillhaipemengaaGreatDoor Go.Proofs.YtillhaipemengaaGreatDoor.K0 Go.Proofs.YtillhaipemengaaGreatDoor.RD Go.Proofs.YtillhaipemengaaGreatDoor.RS Go.Proofs.YtillhaipemengaaGreatDoorW.PrintWords Go.Proofs.YtillhaipemengaaGreatDoorW.PrintLast Go.Proofs.YtillhaipemengaaGreatDoorW.PrintMore
attribute [local go_sem] max2_int min2_int max_two min_two max_three min_three max_four min_four
set_option linter.unusedVariables false
set_option linter.unusedSimpArgs false
end Go.Proofs.YtillhaipemengaaGreatDoor.LEdits
end

section
namespace Go.Proofs.YtillhaipemengaaGreatDoor.LEdits
open Go.RowKit Go.Proofs.YtillhaipemengaaGreatDoor Go.Proofs.YtillhaipemengaaGreatDoor.K0 Go.Proofs.YtillhaipemengaaGreatDoor.RD Go.Proofs.YtillhaipemengaaGreatDoor.RS Go.Proofs.YtillhaipemengaaGreatDoorW.PrintWords Go.Proofs.YtillhaipemengaaGreatDoorW.PrintLast Go.Proofs.YtillhaipemengaaGreatDoorW.PrintMore
attribute [local go_sem] max2_int min2_int max_two min_two max_three min_three max_four min_four
set_option linter.unusedVariables false
set_option linter.unusedSimpArgs false
theorem eqA26 (d : Nat) (w : World) (x0 y0 : Int) (x1 y1 : Int) (x2 y2 : Int) (x3 y3 : ByteArray) (x4 y4 : ByteArray) :
  (Op.equalIn (d + 2) 26 (.agg #[.int .i64 x0, .int .i64 x1, .int .i64 x2, .string x3, .string x4]) (.agg #[.int .i64 y0, .int .i64 y1, .int .i64 y2, .string y3, .string y4])).run Tryz.prog w = .ok (x0 == y0 && (x1 == y1 && (x2 == y2 && (x3.toList == y3.toList && (x4.toList == y4.toList))))) w := by
 refine eqA_of Tryz.underlying26 (by kernel_rfl) ?_
 refine eqf_cons (by rfl) (by go_simp; rfl) (by go_simp; rfl) (by go_simp) ?_
 refine eqf_cons (by rfl) (by go_simp; rfl) (by go_simp; rfl) (by go_simp) ?_
 refine eqf_cons (by rfl) (by go_simp; rfl) (by go_simp; rfl) (by go_simp) ?_
 refine eqf_cons (by rfl) (by go_simp; rfl) (by go_simp; rfl) (by go_simp) ?_
 exact eqf_last (by rfl) (by go_simp; rfl) (by go_simp; rfl) (by go_simp)
end Go.Proofs.YtillhaipemengaaGreatDoor.LEdits
end

section
namespace Go.Proofs.YtillhaipemengaaGreatDoor.LEdits
open Go.RowKit Go.Proofs.YtillhaipemengaaGreatDoor Go.Proofs.YtillhaipemengaaGreatDoor.K0 Go.Proofs.YtillhaipemengaaGreatDoor.RD Go.Proofs.YtillhaipemengaaGreatDoor.RS Go.Proofs.YtillhaipemengaaGreatDoorW.PrintWords Go.Proofs.YtillhaipemengaaGreatDoorW.PrintLast Go.Proofs.YtillhaipemengaaGreatDoorW.PrintMore
attribute [local go_sem] max2_int min2_int max_two min_two max_three min_three max_four min_four
set_option linter.unusedVariables false
set_option linter.unusedSimpArgs false
attribute [local go_sem high] eqA26
mutual
def armadalaw18_BumpEdits.j0 : Nat → Int → Bool → List (S63) → List (S71) → List Int → List (S61) → Option (Bool)
 | 0, _, _, _, _, _, _ => none
 | k + 1, x1, x24, x102000, x102001, x102002, x102003 => if x24 = true then ((armadalaw18_live.f).bind fun t103 => (some t103)) else ((armadalaw18_own.f k x102003).bind fun t104 => ((bump_Releases.f x102000 x102001 x102002 t104).bind fun bt107 => (if bt107.2 = 0 then ((bump_Edits.f x102000 bt107.1 x1).bind fun t112 => (armadalaw18_BumpEdits.l0 k x1 bt107.1 t112 0 0 x102000 x102001 x102002 x102003)) else ((armadalaw18_live.f).bind fun t111 => (some t111)))))
def armadalaw18_BumpEdits.l0 : Nat → Int → List (S30) → List (S69) → Int → Int → List (S63) → List (S71) → List Int → List (S61) → Option (Bool)
 | 0, _, _, _, _, _, _, _, _, _ => none
 | k + 1, x1, x5, x7, x8, x9, x102000, x102001, x102002, x102003 => if 0 ≤ x1 then (if x1 < (x102000.length : Int) then (if x9 < (((rd_T63 x102000 x1).f2).length : Int) then (armadalaw18_BumpEdits.l1 k x1 x5 x7 x8 x9 0 x102000 x102001 x102002 x102003) else (if x8 = (x7.length : Int) then ((armadalaw18_live.f).bind fun t116 => (some t116)) else (some false))) else (none)) else (none)
def armadalaw18_BumpEdits.l1 : Nat → Int → List (S30) → List (S69) → Int → Int → Int → List (S63) → List (S71) → List Int → List (S61) → Option (Bool)
 | 0, _, _, _, _, _, _, _, _, _, _ => none
 | k + 1, x1, x5, x7, x8, x9, x10, x102000, x102001, x102002, x102003 => if x10 < (x5.length : Int) then (if 0 ≤ x10 then (if ((rd_T30 x5 x10).f0) < 0 then (armadalaw18_BumpEdits.j3 k x1 x5 x7 x8 x9 x10 true x102000 x102001 x102002 x102003) else (armadalaw18_BumpEdits.j3 k x1 x5 x7 x8 x9 x10 (decide (((rd_T30 x5 x10).f0) ≥ (x102000.length : Int))) x102000 x102001 x102002 x102003)) else (none)) else (armadalaw18_BumpEdits.l0 k x1 x5 x7 x8 (wrap64 (x9 + 1)) x102000 x102001 x102002 x102003)
def armadalaw18_BumpEdits.j3 : Nat → Int → List (S30) → List (S69) → Int → Int → Int → Bool → List (S63) → List (S71) → List Int → List (S61) → Option (Bool)
 | 0, _, _, _, _, _, _, _, _, _, _, _ => none
 | k + 1, x1, x5, x7, x8, x9, x10, x80, x102000, x102001, x102002, x102003 => if x80 = true then (some false) else (if 0 ≤ x10 then (if x10 < (x5.length : Int) then (if 0 ≤ ((rd_T30 x5 x10).f0) then (if ((rd_T30 x5 x10).f0) < (x102000.length : Int) then (if 0 ≤ x1 then (if x1 < (x102000.length : Int) then (if 0 ≤ x9 then (if x9 < (((rd_T63 x102000 x1).f2).length : Int) then (if ((rd_T63 x102000 ((rd_T30 x5 x10).f0)).f1).toList = ((rd_T69 ((rd_T63 x102000 x1).f2) x9).f0).toList then (if x8 ≥ (x7.length : Int) then (some false) else (if 0 ≤ x8 then (if x8 < (x7.length : Int) then (if ((rd_T69 x7 x8).f0).toList = ((rd_T69 ((rd_T63 x102000 x1).f2) x9).f0).toList then (if (!(((rd_T69 x7 x8).f1.f0) == ((rd_T30 x5 x10).f3.f0)) || (!(((rd_T69 x7 x8).f1.f1) == ((rd_T30 x5 x10).f3.f1)) || (!(((rd_T69 x7 x8).f1.f2) == ((rd_T30 x5 x10).f3.f2)) || (!((((rd_T69 x7 x8).f1.f3).toList) == (((rd_T30 x5 x10).f3.f3).toList)) || (!((((rd_T69 x7 x8).f1.f4).toList) == (((rd_T30 x5 x10).f3.f4).toList))))))) = true then (some false) else (armadalaw18_BumpEdits.l1 k x1 x5 x7 (wrap64 (x8 + 1)) x9 (wrap64 (x10 + 1)) x102000 x102001 x102002 x102003)) else (some false)) else (none)) else (none))) else (armadalaw18_BumpEdits.l1 k x1 x5 x7 x8 x9 (wrap64 (x10 + 1)) x102000 x102001 x102002 x102003)) else (none)) else (none)) else (none)) else (none)) else (none)) else (none)) else (none)) else (none))
end
def armadalaw18_BumpEdits.f (k : Nat) (l0_0 : List (S63)) (l0_1 : List (S71)) (l0_2 : List Int) (l0_3 : List (S61)) (a1 : Int) : Option (Bool) := (armadalaw18_small.f k l0_0 l0_1 l0_2 l0_3).bind fun t102 => (if t102 = true then (if a1 < 0 then (armadalaw18_BumpEdits.j0 k a1 true l0_0 l0_1 l0_2 l0_3) else (armadalaw18_BumpEdits.j0 k a1 (decide (a1 ≥ (l0_0.length : Int))) l0_0 l0_1 l0_2 l0_3)) else (armadalaw18_BumpEdits.j0 k a1 true l0_0 l0_1 l0_2 l0_3))
theorem armadalaw18_BumpEdits.mono_l : ∀ k, (∀ y0 y1 y2 y3 y4 y5, LeO (armadalaw18_BumpEdits.j0 k y0 y1 y2 y3 y4 y5) (armadalaw18_BumpEdits.j0 (k + 1) y0 y1 y2 y3 y4 y5)) ∧ (∀ y0 y1 y2 y3 y4 y5 y6 y7 y8, LeO (armadalaw18_BumpEdits.l0 k y0 y1 y2 y3 y4 y5 y6 y7 y8) (armadalaw18_BumpEdits.l0 (k + 1) y0 y1 y2 y3 y4 y5 y6 y7 y8)) ∧ (∀ y0 y1 y2 y3 y4 y5 y6 y7 y8 y9, LeO (armadalaw18_BumpEdits.l1 k y0 y1 y2 y3 y4 y5 y6 y7 y8 y9) (armadalaw18_BumpEdits.l1 (k + 1) y0 y1 y2 y3 y4 y5 y6 y7 y8 y9)) ∧ (∀ y0 y1 y2 y3 y4 y5 y6 y7 y8 y9 y10, LeO (armadalaw18_BumpEdits.j3 k y0 y1 y2 y3 y4 y5 y6 y7 y8 y9 y10) (armadalaw18_BumpEdits.j3 (k + 1) y0 y1 y2 y3 y4 y5 y6 y7 y8 y9 y10))
 | 0 => ⟨fun _ _ _ _ _ _ r h => by simp [armadalaw18_BumpEdits.j0] at h, fun _ _ _ _ _ _ _ _ _ r h => by simp [armadalaw18_BumpEdits.l0] at h, fun _ _ _ _ _ _ _ _ _ _ r h => by simp [armadalaw18_BumpEdits.l1] at h, fun _ _ _ _ _ _ _ _ _ _ _ r h => by simp [armadalaw18_BumpEdits.j3] at h⟩
 | k + 1 => by
  obtain ⟨ih0, ih1, ih2, ih3⟩ := armadalaw18_BumpEdits.mono_l k
  refine ⟨?_, ?_, ?_, ?_⟩
  ·
   intro y0 y1 y2 y3 y4 y5
   unfold armadalaw18_BumpEdits.j0
   repeat' first
   | (with_reducible exact ih0 _ _ _ _ _ _)
   | (with_reducible exact ih1 _ _ _ _ _ _ _ _ _)
   | (with_reducible exact ih2 _ _ _ _ _ _ _ _ _ _)
   | (with_reducible exact ih3 _ _ _ _ _ _ _ _ _ _ _)
   | (with_reducible exact armadalaw18_own.mono _ _)
   | (with_reducible exact armadalaw18_small.mono _ _ _ _ _)
   | (with_reducible exact LeO.refl _)
   | (with_reducible exact LeO.none _)
   | (with_reducible refine LeO.ite ?_ ?_)
   | (with_reducible refine LeO.bind ?_ (fun _ => ?_))
   | exact ih0 _ _ _ _ _ _
   | exact ih1 _ _ _ _ _ _ _ _ _
   | exact ih2 _ _ _ _ _ _ _ _ _ _
   | exact ih3 _ _ _ _ _ _ _ _ _ _ _
   | exact armadalaw18_own.mono _ _
   | exact armadalaw18_small.mono _ _ _ _ _
   | exact LeO.none _
   | refine LeO.ite ?_ ?_
   | refine LeO.bind ?_ (fun _ => ?_)
  ·
   intro y0 y1 y2 y3 y4 y5 y6 y7 y8
   unfold armadalaw18_BumpEdits.l0
   repeat' first
   | (with_reducible exact ih0 _ _ _ _ _ _)
   | (with_reducible exact ih1 _ _ _ _ _ _ _ _ _)
   | (with_reducible exact ih2 _ _ _ _ _ _ _ _ _ _)
   | (with_reducible exact ih3 _ _ _ _ _ _ _ _ _ _ _)
   | (with_reducible exact armadalaw18_own.mono _ _)
   | (with_reducible exact armadalaw18_small.mono _ _ _ _ _)
   | (with_reducible exact LeO.refl _)
   | (with_reducible exact LeO.none _)
   | (with_reducible refine LeO.ite ?_ ?_)
   | (with_reducible refine LeO.bind ?_ (fun _ => ?_))
   | exact ih0 _ _ _ _ _ _
   | exact ih1 _ _ _ _ _ _ _ _ _
   | exact ih2 _ _ _ _ _ _ _ _ _ _
   | exact ih3 _ _ _ _ _ _ _ _ _ _ _
   | exact armadalaw18_own.mono _ _
   | exact armadalaw18_small.mono _ _ _ _ _
   | exact LeO.none _
   | refine LeO.ite ?_ ?_
   | refine LeO.bind ?_ (fun _ => ?_)
  ·
   intro y0 y1 y2 y3 y4 y5 y6 y7 y8 y9
   unfold armadalaw18_BumpEdits.l1
   repeat' first
   | (with_reducible exact ih0 _ _ _ _ _ _)
   | (with_reducible exact ih1 _ _ _ _ _ _ _ _ _)
   | (with_reducible exact ih2 _ _ _ _ _ _ _ _ _ _)
   | (with_reducible exact ih3 _ _ _ _ _ _ _ _ _ _ _)
   | (with_reducible exact armadalaw18_own.mono _ _)
   | (with_reducible exact armadalaw18_small.mono _ _ _ _ _)
   | (with_reducible exact LeO.refl _)
   | (with_reducible exact LeO.none _)
   | (with_reducible refine LeO.ite ?_ ?_)
   | (with_reducible refine LeO.bind ?_ (fun _ => ?_))
   | exact ih0 _ _ _ _ _ _
   | exact ih1 _ _ _ _ _ _ _ _ _
   | exact ih2 _ _ _ _ _ _ _ _ _ _
   | exact ih3 _ _ _ _ _ _ _ _ _ _ _
   | exact armadalaw18_own.mono _ _
   | exact armadalaw18_small.mono _ _ _ _ _
   | exact LeO.none _
   | refine LeO.ite ?_ ?_
   | refine LeO.bind ?_ (fun _ => ?_)
  ·
   intro y0 y1 y2 y3 y4 y5 y6 y7 y8 y9 y10
   unfold armadalaw18_BumpEdits.j3
   repeat' first
   | (with_reducible exact ih0 _ _ _ _ _ _)
   | (with_reducible exact ih1 _ _ _ _ _ _ _ _ _)
   | (with_reducible exact ih2 _ _ _ _ _ _ _ _ _ _)
   | (with_reducible exact ih3 _ _ _ _ _ _ _ _ _ _ _)
   | (with_reducible exact armadalaw18_own.mono _ _)
   | (with_reducible exact armadalaw18_small.mono _ _ _ _ _)
   | (with_reducible exact LeO.refl _)
   | (with_reducible exact LeO.none _)
   | (with_reducible refine LeO.ite ?_ ?_)
   | (with_reducible refine LeO.bind ?_ (fun _ => ?_))
   | exact ih0 _ _ _ _ _ _
   | exact ih1 _ _ _ _ _ _ _ _ _
   | exact ih2 _ _ _ _ _ _ _ _ _ _
   | exact ih3 _ _ _ _ _ _ _ _ _ _ _
   | exact armadalaw18_own.mono _ _
   | exact armadalaw18_small.mono _ _ _ _ _
   | exact LeO.none _
   | refine LeO.ite ?_ ?_
   | refine LeO.bind ?_ (fun _ => ?_)
theorem armadalaw18_BumpEdits.mono : ∀ a0 a1 a2 a3 a4 k, LeO (armadalaw18_BumpEdits.f k a0 a1 a2 a3 a4) (armadalaw18_BumpEdits.f (k + 1) a0 a1 a2 a3 a4) := by
 intro a0 a1 a2 a3 a4 k
 obtain ⟨ih0, ih1, ih2, ih3⟩ := armadalaw18_BumpEdits.mono_l k
 unfold armadalaw18_BumpEdits.f
 repeat' first
   | (with_reducible exact ih0 _ _ _ _ _ _)
   | (with_reducible exact ih1 _ _ _ _ _ _ _ _ _)
   | (with_reducible exact ih2 _ _ _ _ _ _ _ _ _ _)
   | (with_reducible exact ih3 _ _ _ _ _ _ _ _ _ _ _)
   | (with_reducible exact armadalaw18_own.mono _ _)
   | (with_reducible exact armadalaw18_small.mono _ _ _ _ _)
   | (with_reducible exact LeO.refl _)
   | (with_reducible exact LeO.none _)
   | (with_reducible refine LeO.ite ?_ ?_)
   | (with_reducible refine LeO.bind ?_ (fun _ => ?_))
   | exact ih0 _ _ _ _ _ _
   | exact ih1 _ _ _ _ _ _ _ _ _
   | exact ih2 _ _ _ _ _ _ _ _ _ _
   | exact ih3 _ _ _ _ _ _ _ _ _ _ _
   | exact armadalaw18_own.mono _ _
   | exact armadalaw18_small.mono _ _ _ _ _
   | exact LeO.none _
   | refine LeO.ite ?_ ?_
   | refine LeO.bind ?_ (fun _ => ?_)
def armadalaw18_BumpEdits.T3 : Bool × List (List Nat × List Nat) := (true, [([], []), ([0], [0]), ([], []), ([2], [2]), ([], []), ([4], [4]), ([], []), ([6], [6]), ([7], [7]), ([1, 3, 5, 8, 8], [1, 3, 5, 8]), ([9], [9]), ([10], [10]), ([10], [10]), ([11, 9, 0, 1, 2, 3, 4, 5, 6, 7, 8, 9, 10, 11], [11]), ([12, 13, 0, 1, 2, 3, 4, 5, 6, 7, 8, 9, 10, 11, 12, 13], [12])])
def armadalaw18_BumpEdits.B3 : List Nat := [0, 1, 0, 4, 0, 16, 0, 64, 192, 511, 1023, 2047, 2047, 4095, 16383]
theorem armadalaw18_BumpEdits.tab3 : rtab .any (opsOf Tryz.f7 3) = armadalaw18_BumpEdits.T3 := by kernel_rfl
theorem armadalaw18_BumpEdits.bits3 : waitsOk armadalaw18_BumpEdits.T3.2 armadalaw18_BumpEdits.B3 = true := by kernel_rfl
def armadalaw18_BumpEdits.T14 : Bool × List (List Nat × List Nat) := (true, [([], []), ([], []), ([0, 1], [0, 1]), ([2], [2]), ([3], [3]), ([4], [4]), ([5], [5]), ([6], [6]), ([6], [6]), ([7, 8, 6], [6, 7, 8]), ([9, 6], [6, 9]), ([10, 6], [6, 10]), ([6], [6]), ([12, 6], [6, 12]), ([13, 6], [6, 13]), ([11, 14, 6], [6, 11, 14]), ([6, 15], [6, 15])])
def armadalaw18_BumpEdits.B14 : List Nat := [0, 0, 3, 7, 15, 31, 63, 127, 127, 511, 1023, 2047, 127, 4223, 12415, 32767, 65535]
theorem armadalaw18_BumpEdits.tab14 : rtab .any (opsOf Tryz.f7 14) = armadalaw18_BumpEdits.T14 := by kernel_rfl
theorem armadalaw18_BumpEdits.bits14 : waitsOk armadalaw18_BumpEdits.T14.2 armadalaw18_BumpEdits.B14 = true := by kernel_rfl
def armadalaw18_BumpEdits.T16 : Bool × List (List Nat × List Nat) := (true, [([], []), ([0], [0]), ([], []), ([], []), ([2, 3], [2, 3]), ([4], [4]), ([5], [5]), ([1, 6], [1, 6]), ([7], [7]), ([8], [8]), ([], []), ([10], [10]), ([], []), ([11, 12], [11, 12]), ([13], [13]), ([14], [14]), ([], []), ([15, 16], [15, 16]), ([17], [17]), ([18], [18]), ([9, 19], [9, 19])])
def armadalaw18_BumpEdits.B16 : List Nat := [0, 1, 0, 0, 12, 28, 60, 127, 255, 511, 0, 1024, 0, 7168, 15360, 31744, 0, 130048, 261120, 523264, 1048575]
theorem armadalaw18_BumpEdits.tab16 : rtab .any (opsOf Tryz.f7 16) = armadalaw18_BumpEdits.T16 := by kernel_rfl
theorem armadalaw18_BumpEdits.bits16 : waitsOk armadalaw18_BumpEdits.T16.2 armadalaw18_BumpEdits.B16 = true := by kernel_rfl
def armadalaw18_BumpEdits.T17 : Bool × List (List Nat × List Nat) := (true, [([], []), ([], []), ([1], [1]), ([0, 2], [0, 2]), ([3], [3]), ([4], [4]), ([4], [4]), ([5, 6, 4], [4, 5, 6]), ([7, 4], [4, 7]), ([8, 4], [4, 8]), ([4], [4]), ([10, 4], [4, 10]), ([4], [4]), ([11, 12, 4], [4, 11, 12]), ([13, 4], [4, 13]), ([14, 4], [4, 14]), ([4], [4]), ([15, 16, 4], [4, 15, 16]), ([17, 4], [4, 17]), ([18, 4], [4, 18]), ([9, 19, 4], [4, 9, 19]), ([4, 20], [4, 20]), ([21, 4], [21]), ([22], [22]), ([22], [22]), ([23, 24, 22], [22, 23, 24]), ([25, 22], [22, 25]), ([26, 22], [22, 26]), ([22], [22]), ([22], [22]), ([28, 29, 22], [22, 28, 29]), ([30, 22], [22, 30]), ([31, 22], [22, 31]), ([27, 32, 22], [22, 27, 32]), ([22, 33], [22, 33])])
def armadalaw18_BumpEdits.B17 : List Nat := [0, 0, 2, 7, 15, 31, 31, 127, 255, 511, 31, 1055, 31, 7199, 15391, 31775, 31, 130079, 261151, 523295, 1048575, 2097151, 4194303, 8388607, 8388607, 33554431, 67108863, 134217727, 8388607, 8388607, 813694975, 1887436799, 4034920447, 8589934591, 17179869183]
theorem armadalaw18_BumpEdits.tab17 : rtab .any (opsOf Tryz.f7 17) = armadalaw18_BumpEdits.T17 := by kernel_rfl
theorem armadalaw18_BumpEdits.bits17 : waitsOk armadalaw18_BumpEdits.T17.2 armadalaw18_BumpEdits.B17 = true := by kernel_rfl
set_option maxHeartbeats 8000000 in
set_option maxRecDepth 100000 in
theorem armadalaw18_BumpEdits.calls (k : Nat) (A0_0 : Option Addr) (c0_0 : Nat) (l0_0 : List (S63)) (A0_1 : Option Addr) (c0_1 : Nat) (l0_1 : List (S71)) (A0_2 : Option Addr) (c0_2 : Nat) (l0_2 : List Int) (A0_3 : Option Addr) (c0_3 : Nat) (l0_3 : List (S61)) (a1 : Int) (r : Bool) (w : World) (hr0_0 : Kd.C k63 w A0_0 l0_0.length l0_0) (hc0_0 : l0_0.length ≤ c0_0) (hr0_1 : Kd.C k71 w A0_1 l0_1.length l0_1) (hc0_1 : l0_1.length ≤ c0_1) (hr0_2 : Kd.C (Kd.int .i64) w A0_2 l0_2.length l0_2) (hc0_2 : l0_2.length ≤ c0_2) (hr0_3 : Kd.C k61 w A0_3 l0_3.length l0_3) (hc0_3 : l0_3.length ≤ c0_3) (hG : GW w) (hT : r = true) (h : armadalaw18_BumpEdits.f k l0_0 l0_1 l0_2 l0_3 a1 = some r) :
  Calls Tryz.prog 7 #[.agg #[.slice A0_0 l0_0.length c0_0, .slice A0_1 l0_1.length c0_1, .slice A0_2 l0_2.length c0_2, .slice A0_3 l0_3.length c0_3], .int .i64 a1] w fun e w' => e = .returned (.bool r) ∧ Below w.heap.size w w' := by
 have hu42 := Tryz.underlying42
 have hu26 := Tryz.underlying26
 have HR0_0 := Aside0.mk hr0_0
 have HC0_0 := Aside0.mk hc0_0
 clear hr0_0 hc0_0
 have HR0_1 := Aside0.mk hr0_1
 have HC0_1 := Aside0.mk hc0_1
 clear hr0_1 hc0_1
 have HR0_2 := Aside0.mk hr0_2
 have HC0_2 := Aside0.mk hc0_2
 clear hr0_2 hc0_2
 have HR0_3 := Aside0.mk hr0_3
 have HC0_3 := Aside0.mk hc0_3
 clear hr0_3 hc0_3
 have HGW := Aside0.mk hG
 clear hG
 have HTRU_ := Aside0.mk hT
 clear hT
 have HB := Aside0.mk (Below.refl w.heap.size w)
 have H : ((armadalaw18_small.f k l0_0 l0_1 l0_2 l0_3).bind fun t102 => (if t102 = true then (if a1 < 0 then (armadalaw18_BumpEdits.j0 k a1 true l0_0 l0_1 l0_2 l0_3) else (armadalaw18_BumpEdits.j0 k a1 (decide (a1 ≥ (l0_0.length : Int))) l0_0 l0_1 l0_2 l0_3)) else (armadalaw18_BumpEdits.j0 k a1 true l0_0 l0_1 l0_2 l0_3))) = some r := h
 clear h
 have HC3 := Aside0.mk H
 clear H
 go_enter Tryz.func7, Tryz.ntmps7
 go_upto_region 1 with (first | ((with_reducible refine gate_dst (N := 2) rfl ?_); (try (refine gate_guard (by rfl) ?_; dsimp only)); refine box_event ?hg (N := 2) ?hd (cs := #[.slice A0_0 l0_0.length c0_0, .slice A0_1 l0_1.length c0_1, .slice A0_2 l0_2.length c0_2, .slice A0_3 l0_3.length c0_3]) (t := 42) ?hr ?_; (case hd => rfl); (case hg => rfl); (case hr => first | (go_simp; done) | (go_simp; rfl)); intro gb101 hg w4 hbox hb; have BK101 := Aside0.mk (hbox); have GW101 := Aside0.mk ((by rw [hg]; exact (below_size xB) : w.heap.size ≤ gb101)); have GE101 := Aside0.mk ((by rw [hg]; exact (below_size xB) : w.heap.size ≤ gb101)); replace HB := Aside0.mk (below_step xB hb); clear hb hbox hg))
 (try simp only [Act.put, List.setIfInBounds_toArray, List.set_cons_zero, List.set_cons_succ])
 go_cut [24] (fun v24 wc => ∃ (kq : Nat) (x24_2 : Bool), v24 = .bool x24_2 ∧ Aside0 (armadalaw18_BumpEdits.j0 kq a1 x24_2 l0_0 l0_1 l0_2 l0_3 = some r) ∧ Aside0 (kq ≤ k) ∧ Aside0 (wc.heap[gb101]? = some (.cells #[(.slice A0_0 l0_0.length c0_0), (.slice A0_1 l0_1.length c0_1), (.slice A0_2 l0_2.length c0_2), (.slice A0_3 l0_3.length c0_3)] 42 (0, 0))) ∧ Aside0 (Below w.heap.size w wc))
 case first =>
  have H := HC3.out
  clear HC3
  replace H := xb H
  obtain ⟨t102, A5, H⟩ := H
  by_cases c6 : t102 = true
  ·
   subst c6
   rw [if_pos rfl] at H
   by_cases c7 : a1 < 0
   ·
    rw [if_pos c7] at H
    have c7b0 := decide_eq_true c7
    clear c7
    (first | rw [c7b0] | (simp only [i64_w, i32_w]; rw [c7b0]) | skip)
    have H' := Aside0.mk H
    clear H
    have hcz8_0 : w4.cell? ⟨gb101, 0, none⟩ = some (.slice A0_0 l0_0.length c0_0) := (blk_cell BK101.out 0).trans rfl
    have hcz8_1 : w4.cell? ⟨gb101, 1, none⟩ = some (.slice A0_1 l0_1.length c0_1) := (blk_cell BK101.out 1).trans rfl
    have hcz8_2 : w4.cell? ⟨gb101, 2, none⟩ = some (.slice A0_2 l0_2.length c0_2) := (blk_cell BK101.out 2).trans rfl
    have hcz8_3 : w4.cell? ⟨gb101, 3, none⟩ = some (.slice A0_3 l0_3.length c0_3) := (blk_cell BK101.out 3).trans rfl
    have hfz8_0 := blk_frozen BK101.out 0
    have hfz8_1 := blk_frozen BK101.out 1
    have hfz8_2 := blk_frozen BK101.out 2
    have hfz8_3 := blk_frozen BK101.out 3
    go_wp2_with (first | ((with_reducible refine gate_callee (f := 14) rfl ?_); refine goesL_ (some 12) rfl rfl Tryz.func14 (by kernel_rfl) rfl #[.agg #[.slice A0_0 l0_0.length c0_0, .slice A0_1 l0_1.length c0_1, .slice A0_2 l0_2.length c0_2, .slice A0_3 l0_3.length c0_3]] rfl xS ?_; (with_reducible refine (armadalaw18_small.calls k _ _ l0_0 _ _ l0_1 _ _ l0_2 _ _ l0_3 true _ ?side1 ?side2 ?side3 ?side4 ?side5 ?side6 ?side7 ?side8 A5.out).mono ?_); (case side1 => repeat (first | exact (Kd.C_below HR0_0.out HB.out) | (with_reducible refine Kd.C_alloc ?_ _) | (with_reducible refine Kd.C_drewN ?_ _) | (with_reducible refine Kd.C_drew ?_))); (case side2 => exact HC0_0.out); (case side3 => repeat (first | exact (Kd.C_below HR0_1.out HB.out) | (with_reducible refine Kd.C_alloc ?_ _) | (with_reducible refine Kd.C_drewN ?_ _) | (with_reducible refine Kd.C_drew ?_))); (case side4 => exact HC0_1.out); (case side5 => repeat (first | exact (Kd.C_below HR0_2.out HB.out) | (with_reducible refine Kd.C_alloc ?_ _) | (with_reducible refine Kd.C_drewN ?_ _) | (with_reducible refine Kd.C_drew ?_))); (case side6 => exact HC0_2.out); (case side7 => repeat (first | exact (Kd.C_below HR0_3.out HB.out) | (with_reducible refine Kd.C_alloc ?_ _) | (with_reducible refine Kd.C_drewN ?_ _) | (with_reducible refine Kd.C_drew ?_))); (case side8 => exact HC0_3.out); rintro e w9 ⟨rfl, hb⟩; refine ⟨_, rfl, ?_⟩; replace BK101 := Aside0.mk (blk_below (g := gb101) (o := .cells #[.slice A0_0 l0_0.length c0_0, .slice A0_1 l0_1.length c0_1, .slice A0_2 l0_2.length c0_2, .slice A0_3 l0_3.length c0_3] 42 (0, 0)) xK hb); replace HB := Aside0.mk (below_step xB hb); (try clear hb); (try clear hb2); (try clear hk); (try clear hi)))
    go_meet
    case rel => exact ⟨_, (true), xR, H', ⟨by first | omega | exact Nat.le_refl _⟩, ⟨by (with_reducible repeat (first | refine blk_drewN ?_ _ | refine blk_drew ?_ | refine blk_alloc ?_ _)); exact BK101.out⟩, ⟨xB⟩⟩
   rw [if_neg c7] at H
   have c7b0 := decide_eq_false c7
   clear c7
   (first | rw [c7b0] | (simp only [i64_w, i32_w]; rw [c7b0]) | skip)
   have H' := Aside0.mk H
   clear H
   have hcz10_0 : w4.cell? ⟨gb101, 0, none⟩ = some (.slice A0_0 l0_0.length c0_0) := (blk_cell BK101.out 0).trans rfl
   have hcz10_1 : w4.cell? ⟨gb101, 1, none⟩ = some (.slice A0_1 l0_1.length c0_1) := (blk_cell BK101.out 1).trans rfl
   have hcz10_2 : w4.cell? ⟨gb101, 2, none⟩ = some (.slice A0_2 l0_2.length c0_2) := (blk_cell BK101.out 2).trans rfl
   have hcz10_3 : w4.cell? ⟨gb101, 3, none⟩ = some (.slice A0_3 l0_3.length c0_3) := (blk_cell BK101.out 3).trans rfl
   have hfz10_0 := blk_frozen BK101.out 0
   have hfz10_1 := blk_frozen BK101.out 1
   have hfz10_2 := blk_frozen BK101.out 2
   have hfz10_3 := blk_frozen BK101.out 3
   go_wp2_with (first | ((with_reducible refine gate_callee (f := 14) rfl ?_); refine goesL_ (some 12) rfl rfl Tryz.func14 (by kernel_rfl) rfl #[.agg #[.slice A0_0 l0_0.length c0_0, .slice A0_1 l0_1.length c0_1, .slice A0_2 l0_2.length c0_2, .slice A0_3 l0_3.length c0_3]] rfl xS ?_; (with_reducible refine (armadalaw18_small.calls k _ _ l0_0 _ _ l0_1 _ _ l0_2 _ _ l0_3 true _ ?side1 ?side2 ?side3 ?side4 ?side5 ?side6 ?side7 ?side8 A5.out).mono ?_); (case side1 => repeat (first | exact (Kd.C_below HR0_0.out HB.out) | (with_reducible refine Kd.C_alloc ?_ _) | (with_reducible refine Kd.C_drewN ?_ _) | (with_reducible refine Kd.C_drew ?_))); (case side2 => exact HC0_0.out); (case side3 => repeat (first | exact (Kd.C_below HR0_1.out HB.out) | (with_reducible refine Kd.C_alloc ?_ _) | (with_reducible refine Kd.C_drewN ?_ _) | (with_reducible refine Kd.C_drew ?_))); (case side4 => exact HC0_1.out); (case side5 => repeat (first | exact (Kd.C_below HR0_2.out HB.out) | (with_reducible refine Kd.C_alloc ?_ _) | (with_reducible refine Kd.C_drewN ?_ _) | (with_reducible refine Kd.C_drew ?_))); (case side6 => exact HC0_2.out); (case side7 => repeat (first | exact (Kd.C_below HR0_3.out HB.out) | (with_reducible refine Kd.C_alloc ?_ _) | (with_reducible refine Kd.C_drewN ?_ _) | (with_reducible refine Kd.C_drew ?_))); (case side8 => exact HC0_3.out); rintro e w11 ⟨rfl, hb⟩; refine ⟨_, rfl, ?_⟩; replace BK101 := Aside0.mk (blk_below (g := gb101) (o := .cells #[.slice A0_0 l0_0.length c0_0, .slice A0_1 l0_1.length c0_1, .slice A0_2 l0_2.length c0_2, .slice A0_3 l0_3.length c0_3] 42 (0, 0)) xK hb); replace HB := Aside0.mk (below_step xB hb); (try clear hb); (try clear hb2); (try clear hk); (try clear hi); obtain ⟨hcz12_0, hcz12_1, hcz12_2, hcz12_3⟩ := xC4 BK101.out; obtain ⟨hfz12_0, hfz12_1, hfz12_2, hfz12_3⟩ := xF4 BK101.out))
   go_meet
   case rel => exact ⟨_, (decide (a1 ≥ (l0_0.length : Int))), xR, H', ⟨by first | omega | exact Nat.le_refl _⟩, ⟨by (with_reducible repeat (first | refine blk_drewN ?_ _ | refine blk_drew ?_ | refine blk_alloc ?_ _)); exact BK101.out⟩, ⟨xB⟩⟩
  replace c6 := Bool.eq_false_iff.mpr c6
  subst c6
  rw [if_neg (show ¬ (false = true) by decide)] at H
  have H' := Aside0.mk H
  clear H
  have hcz13_0 : w4.cell? ⟨gb101, 0, none⟩ = some (.slice A0_0 l0_0.length c0_0) := (blk_cell BK101.out 0).trans rfl
  have hcz13_1 : w4.cell? ⟨gb101, 1, none⟩ = some (.slice A0_1 l0_1.length c0_1) := (blk_cell BK101.out 1).trans rfl
  have hcz13_2 : w4.cell? ⟨gb101, 2, none⟩ = some (.slice A0_2 l0_2.length c0_2) := (blk_cell BK101.out 2).trans rfl
  have hcz13_3 : w4.cell? ⟨gb101, 3, none⟩ = some (.slice A0_3 l0_3.length c0_3) := (blk_cell BK101.out 3).trans rfl
  have hfz13_0 := blk_frozen BK101.out 0
  have hfz13_1 := blk_frozen BK101.out 1
  have hfz13_2 := blk_frozen BK101.out 2
  have hfz13_3 := blk_frozen BK101.out 3
  go_wp2_with (first | ((with_reducible refine gate_callee (f := 14) rfl ?_); refine goesL_ (some 12) rfl rfl Tryz.func14 (by kernel_rfl) rfl #[.agg #[.slice A0_0 l0_0.length c0_0, .slice A0_1 l0_1.length c0_1, .slice A0_2 l0_2.length c0_2, .slice A0_3 l0_3.length c0_3]] rfl xS ?_; (with_reducible refine (armadalaw18_small.calls k _ _ l0_0 _ _ l0_1 _ _ l0_2 _ _ l0_3 false _ ?side1 ?side2 ?side3 ?side4 ?side5 ?side6 ?side7 ?side8 A5.out).mono ?_); (case side1 => repeat (first | exact (Kd.C_below HR0_0.out HB.out) | (with_reducible refine Kd.C_alloc ?_ _) | (with_reducible refine Kd.C_drewN ?_ _) | (with_reducible refine Kd.C_drew ?_))); (case side2 => exact HC0_0.out); (case side3 => repeat (first | exact (Kd.C_below HR0_1.out HB.out) | (with_reducible refine Kd.C_alloc ?_ _) | (with_reducible refine Kd.C_drewN ?_ _) | (with_reducible refine Kd.C_drew ?_))); (case side4 => exact HC0_1.out); (case side5 => repeat (first | exact (Kd.C_below HR0_2.out HB.out) | (with_reducible refine Kd.C_alloc ?_ _) | (with_reducible refine Kd.C_drewN ?_ _) | (with_reducible refine Kd.C_drew ?_))); (case side6 => exact HC0_2.out); (case side7 => repeat (first | exact (Kd.C_below HR0_3.out HB.out) | (with_reducible refine Kd.C_alloc ?_ _) | (with_reducible refine Kd.C_drewN ?_ _) | (with_reducible refine Kd.C_drew ?_))); (case side8 => exact HC0_3.out); rintro e w14 ⟨rfl, hb⟩; refine ⟨_, rfl, ?_⟩; replace BK101 := Aside0.mk (blk_below (g := gb101) (o := .cells #[.slice A0_0 l0_0.length c0_0, .slice A0_1 l0_1.length c0_1, .slice A0_2 l0_2.length c0_2, .slice A0_3 l0_3.length c0_3] 42 (0, 0)) xK hb); replace HB := Aside0.mk (below_step xB hb); (try clear hb); (try clear hb2); (try clear hk); (try clear hi)))
  go_meet
  case rel => exact ⟨_, (true), xR, H', ⟨by first | omega | exact Nat.le_refl _⟩, ⟨by (with_reducible repeat (first | refine blk_drewN ?_ _ | refine blk_drew ?_ | refine blk_alloc ?_ _)); exact BK101.out⟩, ⟨xB⟩⟩
 case rest =>
  clear HC3
  try clear c1
  try clear p2
  try clear c6
  try clear c7
  try clear c7b0
  try clear c14
  try clear hcz10_0
  try clear hcz10_1
  try clear hcz10_2
  try clear hcz10_3
  try clear hcz12_0
  try clear hcz12_1
  try clear hcz12_2
  try clear hcz12_3
  try clear hcz13_0
  try clear hcz13_1
  try clear hcz13_2
  try clear hcz13_3
  try clear hcz8_0
  try clear hcz8_1
  try clear hcz8_2
  try clear hcz8_3
  try clear hfz10_0
  try clear hfz10_1
  try clear hfz10_2
  try clear hfz10_3
  try clear hfz12_0
  try clear hfz12_1
  try clear hfz12_2
  try clear hfz12_3
  try clear hfz13_0
  try clear hfz13_1
  try clear hfz13_2
  try clear hfz13_3
  try clear hfz8_0
  try clear hfz8_1
  try clear hfz8_2
  try clear hfz8_3
  obtain ⟨kq, x24_2, rfl, HA, HJ2, BK101, HB⟩ := hcut
  cases kq with
  | zero => exact absurd HA.out (by simp [armadalaw18_BumpEdits.j0])
  | succ kj2 =>
   have H := HA.out
   clear HA
   simp only [armadalaw18_BumpEdits.j0] at H
   by_cases c15 : x24_2 = true
   ·
    subst c15
    rw [if_pos rfl] at H
    replace H := xb H
    obtain ⟨t103, A16, H⟩ := H
    obtain rfl := Option.some.inj H
    go_wp2_with (first | ((with_reducible refine gate_callee (f := 9) rfl ?_); refine goesL_ (some 25) rfl rfl Tryz.func9 (by kernel_rfl) rfl #[] rfl xS ?_; (with_reducible refine (armadalaw18_live.calls  t103 _ ?side1 ?side2 A16.out).mono ?_); (case side1 => exact GW.below HGW.out xB); (case side2 => exact HTRU_.out); rintro e w17 ⟨rfl, hb⟩; refine ⟨_, rfl, ?_⟩; replace BK101 := Aside0.mk (blk_below (g := gb101) (o := .cells #[.slice A0_0 l0_0.length c0_0, .slice A0_1 l0_1.length c0_1, .slice A0_2 l0_2.length c0_2, .slice A0_3 l0_3.length c0_3] 42 (0, 0)) xK hb); replace HB := Aside0.mk (below_step xB hb); (try clear hb); (try clear hb2); (try clear hk); (try clear hi)))
    go_ret
    exact ⟨by first | rfl | (simp [errW_none, errW_some] <;> rfl) | (simp [*, errW_none, errW_some] <;> rfl) | (simp [isEmpty_bne]; done), xB⟩
   replace c15 := Bool.eq_false_iff.mpr c15
   subst c15
   rw [if_neg (show ¬ (false = true) by decide)] at H
   replace H := xb H
   obtain ⟨t104, A18, H⟩ := H
   replace H := Option.bind_eq_some_iff.mp H
   obtain ⟨⟨t107, t108⟩, A190, H⟩ := H
   replace H : (if t108 = 0 then ((bump_Edits.f l0_0 t107 a1).bind fun t112 => (armadalaw18_BumpEdits.l0 kj2 a1 t107 t112 0 0 l0_0 l0_1 l0_2 l0_3)) else ((armadalaw18_live.f).bind fun t111 => (some t111))) = some r := H
   have A19 := Aside0.mk A190
   clear A190
   by_cases c20 : t108 = 0
   ·
    rw [if_pos c20] at H
    have c20b0 := beq_iff_eq.mpr c20
    have c20b1 := bne_eq_false_iff_eq.mpr c20
    clear c20
    replace H := xb H
    obtain ⟨t112, A21, H⟩ := H
    have H' := Aside0.mk H
    clear H
    try go_wp2
    have n0_ := Aside0.mk (blk_drew BK101.out)
    have n1_ := Aside0.mk (below_drew1 HB.out)
    clear BK101
    clear HB
    have BK101 := n0_
    have HB := n1_
    clear n0_ n1_
    refine start_ (n := 15) (S := fun w' => w'.cell? ⟨gb101, 0, none⟩ = some (.slice A0_0 l0_0.length c0_0) ∧ w'.cell? ⟨gb101, 1, none⟩ = some (.slice A0_1 l0_1.length c0_1) ∧ w'.cell? ⟨gb101, 2, none⟩ = some (.slice A0_2 l0_2.length c0_2) ∧ w'.cell? ⟨gb101, 3, none⟩ = some (.slice A0_3 l0_3.length c0_3)) (ds := []) #[ff, ff, ff, ff, ff, ff, ff, ff, ff, ff, ff, ff, ff, ff, ff] (by kernel_rfl) rfl rfl ⟨(blk_cell BK101.out 0).trans rfl, (blk_cell BK101.out 1).trans rfl, (blk_cell BK101.out 2).trans rfl, (blk_cell BK101.out 3).trans rfl⟩ (fun hHeld => ?_); refine with_tabW armadalaw18_BumpEdits.tab3 armadalaw18_BumpEdits.bits3 (fun HT_ HW_ => ?_)
    generalize wc.drew = w22 at BK101 HB hHeld ⊢
    refine pure_ (i := 0) (N := some 27) (v := ?_) (a' := ?_) #[tt, ff, ff, ff, ff, ff, ff, ff, ff, ff, ff, ff, ff, ff, ff] rfl rfl (any_of HT_.out (by kernel_rfl)) (fun _ _ _ h => h) (Or.inl ⟨by rfl, ?_⟩) ?_ ?_
    rotate_left
    ·
     intro w'
     go_simp
     with_reducible rfl
    rotate_left
    ·
     simp only [Act.put, List.setIfInBounds_toArray, List.set_cons_zero, List.set_cons_succ, i64_w, i32_w]
     rfl
    refine pure_ (i := 2) (N := some 29) (v := ?_) (a' := ?_) #[tt, ff, tt, ff, ff, ff, ff, ff, ff, ff, ff, ff, ff, ff, ff] rfl rfl (any_of HT_.out (by kernel_rfl)) (fun _ _ _ h => h) (Or.inl ⟨by rfl, ?_⟩) ?_ ?_
    rotate_left
    ·
     intro w'
     go_simp
     with_reducible rfl
    rotate_left
    ·
     simp only [Act.put, List.setIfInBounds_toArray, List.set_cons_zero, List.set_cons_succ, i64_w, i32_w]
     rfl
    refine pure_ (i := 4) (N := some 31) (v := ?_) (a' := ?_) #[tt, ff, tt, ff, tt, ff, ff, ff, ff, ff, ff, ff, ff, ff, ff] rfl rfl (any_of HT_.out (by kernel_rfl)) (fun _ _ _ h => h) (Or.inl ⟨by rfl, ?_⟩) ?_ ?_
    rotate_left
    ·
     intro w'
     go_simp
     with_reducible rfl
    rotate_left
    ·
     simp only [Act.put, List.setIfInBounds_toArray, List.set_cons_zero, List.set_cons_succ, i64_w, i32_w]
     rfl
    refine pure_ (i := 6) (N := some 33) (v := ?_) (a' := ?_) #[tt, ff, tt, ff, tt, ff, tt, ff, ff, ff, ff, ff, ff, ff, ff] rfl rfl (any_of HT_.out (by kernel_rfl)) (fun _ _ _ h => h) (Or.inl ⟨by rfl, ?_⟩) ?_ ?_
    rotate_left
    ·
     intro w'
     go_simp
     with_reducible rfl
    rotate_left
    ·
     simp only [Act.put, List.setIfInBounds_toArray, List.set_cons_zero, List.set_cons_succ, i64_w, i32_w]
     rfl
    refine take_ (i := 1) (N := some 28) (v := ?_) (a' := ?_) #[tt, tt, tt, ff, tt, ff, tt, ff, ff, ff, ff, ff, ff, ff, ff] rfl rfl (take_ofW HT_.out HW_.out (by kernel_rfl)) (fun _ _ _ h => h) (Or.inl ⟨by rfl, ?_⟩) hHeld ?_ ?_
    rotate_left
    ·
     rintro w' ⟨s0, s1, s2, s3⟩
     go_simp
     with_reducible rfl
    rotate_left
    ·
     simp only [Act.put, List.setIfInBounds_toArray, List.set_cons_zero, List.set_cons_succ, i64_w, i32_w]
     rfl
    refine take_ (i := 3) (N := some 30) (v := ?_) (a' := ?_) #[tt, tt, tt, tt, tt, ff, tt, ff, ff, ff, ff, ff, ff, ff, ff] rfl rfl (take_ofW HT_.out HW_.out (by kernel_rfl)) (fun _ _ _ h => h) (Or.inl ⟨by rfl, ?_⟩) hHeld ?_ ?_
    rotate_left
    ·
     rintro w' ⟨s0, s1, s2, s3⟩
     go_simp
     with_reducible rfl
    rotate_left
    ·
     simp only [Act.put, List.setIfInBounds_toArray, List.set_cons_zero, List.set_cons_succ, i64_w, i32_w]
     rfl
    refine take_ (i := 5) (N := some 32) (v := ?_) (a' := ?_) #[tt, tt, tt, tt, tt, tt, tt, ff, ff, ff, ff, ff, ff, ff, ff] rfl rfl (take_ofW HT_.out HW_.out (by kernel_rfl)) (fun _ _ _ h => h) (Or.inl ⟨by rfl, ?_⟩) hHeld ?_ ?_
    rotate_left
    ·
     rintro w' ⟨s0, s1, s2, s3⟩
     go_simp
     with_reducible rfl
    rotate_left
    ·
     simp only [Act.put, List.setIfInBounds_toArray, List.set_cons_zero, List.set_cons_succ, i64_w, i32_w]
     rfl
    refine take_ (i := 7) (N := some 34) (v := ?_) (a' := ?_) #[tt, tt, tt, tt, tt, tt, tt, tt, ff, ff, ff, ff, ff, ff, ff] rfl rfl (take_ofW HT_.out HW_.out (by kernel_rfl)) (fun _ _ _ h => h) (Or.inl ⟨by rfl, ?_⟩) hHeld ?_ ?_
    rotate_left
    ·
     rintro w' ⟨s0, s1, s2, s3⟩
     go_simp
     with_reducible rfl
    rotate_left
    ·
     simp only [Act.put, List.setIfInBounds_toArray, List.set_cons_zero, List.set_cons_succ, i64_w, i32_w]
     rfl
    refine one_ (i := 8) (N := some 35) #[tt, tt, tt, tt, tt, tt, tt, tt, tt, ff, ff, ff, ff, ff, ff] rfl rfl (one_of HT_.out (by kernel_rfl)) (by decide) (fun K hK => ?_)
    refine goes_ Tryz.func16 (by kernel_rfl) rfl #[.slice A0_3 l0_3.length c0_3] (by rfl) rfl rfl xS ?_
    with_reducible refine (armadalaw18_own.calls kj2 _ _ l0_3 t104 _ ?side1 ?side2 A18.out).mono ?_
    (case side1 => repeat (first | exact (Kd.C_below HR0_3.out HB.out) | (with_reducible refine Kd.C_alloc ?_ _) | (with_reducible refine Kd.C_drewN ?_ _) | (with_reducible refine Kd.C_drew ?_)))
    (case side2 => exact HC0_3.out)
    rintro e w23 ⟨v105, rfl, ho0, hb⟩
    refine ⟨_, rfl, ?_⟩
    have n0_ := Aside0.mk (Kd.R_lower ho0 (below_size xB))
    have n1_ := Aside0.mk (blk_below (g := gb101) (o := .cells #[.slice A0_0 l0_0.length c0_0, .slice A0_1 l0_1.length c0_1, .slice A0_2 l0_2.length c0_2, .slice A0_3 l0_3.length c0_3] 42 (0, 0)) xK hb)
    have n2_ := Aside0.mk (below_step xB hb)
    clear BK101
    clear HB
    have HO106 := n0_
    have BK101 := n1_
    have HB := n2_
    clear n0_ n1_ n2_
    (try clear hb)
    (try clear hb2)
    (try clear hk)
    (try clear hi)
    (try clear ho0)
    obtain ⟨Ao24, co24, eo24⟩ := Kd.R_slice HO106.out
    (first | subst eo24 | (injection eo24 with f1_ f2_ f3_; have f4_ := f1_.symm; have f5_ := f3_.symm; clear f1_ f2_ f3_; subst f4_; subst f5_))
    refine hK.out _ _ ⟨(blk_cell BK101.out 0).trans rfl, (blk_cell BK101.out 1).trans rfl, (blk_cell BK101.out 2).trans rfl, (blk_cell BK101.out 3).trans rfl⟩ (fun hHeld => ?_)
    clear hK K
    refine norm_ (a' := ?_) ?_ ?_
    rotate_left
    ·
     show Act.put _ (some 35) _ = _
     simp only [Act.put, List.setIfInBounds_toArray, List.set_cons_zero, List.set_cons_succ, i64_w, i32_w]
     rfl
    refine one_ (i := 9) (N := some 36) #[tt, tt, tt, tt, tt, tt, tt, tt, tt, tt, ff, ff, ff, ff, ff] rfl rfl (one_of HT_.out (by kernel_rfl)) (by decide) (fun K hK => ?_)
    refine goes_ Tryz.func15 (by kernel_rfl) rfl #[.slice A0_0 l0_0.length c0_0, .slice A0_1 l0_1.length c0_1, .slice A0_2 l0_2.length c0_2, .slice Ao24 t104.length co24] (by rfl) rfl rfl xS ?_
    with_reducible refine (bump_Releases.calls _ _ l0_0 _ _ l0_1 _ _ l0_2 _ _ t104 t107 t108 _ ?side1 ?side2 ?side3 ?side4 ?side5 ?side6 ?side7 ?side8 ?side9 A19.out).mono ?_
    (case side1 => repeat (first | exact (Kd.C_below HR0_0.out HB.out) | (with_reducible refine Kd.C_alloc ?_ _) | (with_reducible refine Kd.C_drewN ?_ _) | (with_reducible refine Kd.C_drew ?_)))
    (case side2 => exact HC0_0.out)
    (case side3 => repeat (first | exact (Kd.C_below HR0_1.out HB.out) | (with_reducible refine Kd.C_alloc ?_ _) | (with_reducible refine Kd.C_drewN ?_ _) | (with_reducible refine Kd.C_drew ?_)))
    (case side4 => exact HC0_1.out)
    (case side5 => repeat (first | exact (Kd.C_below HR0_2.out HB.out) | (with_reducible refine Kd.C_alloc ?_ _) | (with_reducible refine Kd.C_drewN ?_ _) | (with_reducible refine Kd.C_drew ?_)))
    (case side6 => exact HC0_2.out)
    (case side7 => repeat (first | exact (Kd.R_reads' HO106.out).2.2 | (with_reducible refine Kd.C_alloc ?_ _) | (with_reducible refine Kd.C_drewN ?_ _) | (with_reducible refine Kd.C_drew ?_)))
    (case side8 => exact (Kd.R_reads' HO106.out).2.1)
    (case side9 => exact GW.below HGW.out xB)
    rintro e w25 ⟨v109, rfl, ho0, hb⟩
    refine ⟨_, rfl, ?_⟩
    have n0_ := Aside0.mk (Kd.R_below (by (with_reducible repeat (first | apply Kd.R_alloc | apply Kd.R_drewN | apply Kd.R_drew)); exact HO106.out) hb)
    have n1_ := Aside0.mk (Kd.R_lower ho0 (below_size xB))
    have n2_ := Aside0.mk (blk_below (g := gb101) (o := .cells #[.slice A0_0 l0_0.length c0_0, .slice A0_1 l0_1.length c0_1, .slice A0_2 l0_2.length c0_2, .slice A0_3 l0_3.length c0_3] 42 (0, 0)) xK hb)
    have n3_ := Aside0.mk (below_step xB hb)
    clear HO106
    clear BK101
    clear HB
    have HO106 := n0_
    have HO110 := n1_
    have BK101 := n2_
    have HB := n3_
    clear n0_ n1_ n2_ n3_
    (try clear hb)
    (try clear hb2)
    (try clear hk)
    (try clear hi)
    (try clear ho0)
    refine hK.out _ _ ⟨(blk_cell BK101.out 0).trans rfl, (blk_cell BK101.out 1).trans rfl, (blk_cell BK101.out 2).trans rfl, (blk_cell BK101.out 3).trans rfl⟩ (fun hHeld => ?_)
    clear hK K
    refine norm_ (a' := ?_) ?_ ?_
    rotate_left
    ·
     show Act.put _ (some 36) _ = _
     simp only [Act.put, List.setIfInBounds_toArray, List.set_cons_zero, List.set_cons_succ, i64_w, i32_w]
     rfl
    refine pure_ (i := 10) (N := some 26) (v := ?_) (a' := ?_) #[tt, tt, tt, tt, tt, tt, tt, tt, tt, tt, tt, ff, ff, ff, ff] rfl rfl (any_of HT_.out (by kernel_rfl)) (fun _ _ _ h => h) (Or.inl ⟨by rfl, ?_⟩) ?_ ?_
    rotate_left
    ·
     intro w'
     go_simp
     with_reducible rfl
    rotate_left
    ·
     simp only [Act.put, List.setIfInBounds_toArray, List.set_cons_zero, List.set_cons_succ, i64_w, i32_w]
     rfl
    refine pure_ (i := 11) (N := some 37) (v := ?_) (a' := ?_) #[tt, tt, tt, tt, tt, tt, tt, tt, tt, tt, tt, tt, ff, ff, ff] rfl rfl (any_of HT_.out (by kernel_rfl)) (fun _ _ _ h => h) (Or.inl ⟨by rfl, ?_⟩) ?_ ?_
    rotate_left
    ·
     intro w'
     go_simp
     with_reducible rfl
    rotate_left
    ·
     simp only [Act.put, List.setIfInBounds_toArray, List.set_cons_zero, List.set_cons_succ, i64_w, i32_w]
     rfl
    refine pure_ (i := 12) (N := some 38) (v := ?_) (a' := ?_) #[tt, tt, tt, tt, tt, tt, tt, tt, tt, tt, tt, tt, tt, ff, ff] rfl rfl (any_of HT_.out (by kernel_rfl)) (fun _ _ _ h => h) (Or.inl ⟨by rfl, ?_⟩) ?_ ?_
    rotate_left
    ·
     intro w'
     go_simp
     with_reducible rfl
    rotate_left
    ·
     simp only [Act.put, List.setIfInBounds_toArray, List.set_cons_zero, List.set_cons_succ, i64_w, i32_w]
     rfl
    refine pure_ (i := 13) (N := some 5) (v := ?_) (a' := ?_) #[tt, tt, tt, tt, tt, tt, tt, tt, tt, tt, tt, tt, tt, tt, ff] rfl rfl (any_of HT_.out (by kernel_rfl)) (fun _ _ _ h => h) (Or.inl ⟨by rfl, ?_⟩) ?_ ?_
    rotate_left
    ·
     intro w'
     go_simp
     with_reducible rfl
    rotate_left
    ·
     simp only [Act.put, List.setIfInBounds_toArray, List.set_cons_zero, List.set_cons_succ, i64_w, i32_w]
     rfl
    refine pure_ (i := 14) (N := some 6) (v := ?_) (a' := ?_) #[tt, tt, tt, tt, tt, tt, tt, tt, tt, tt, tt, tt, tt, tt, tt] rfl rfl (any_of HT_.out (by kernel_rfl)) (fun _ _ _ h => h) (Or.inl ⟨by rfl, ?_⟩) ?_ ?_
    rotate_left
    ·
     intro w'
     go_simp
     with_reducible rfl
    rotate_left
    ·
     simp only [Act.put, List.setIfInBounds_toArray, List.set_cons_zero, List.set_cons_succ, i64_w, i32_w]
     rfl
    refine done_ (done_of HT_.out (by kernel_rfl)) ?_
    have hcz26_0 : w25.cell? ⟨gb101, 0, none⟩ = some (.slice A0_0 l0_0.length c0_0) := (blk_cell BK101.out 0).trans rfl
    have hcz26_1 : w25.cell? ⟨gb101, 1, none⟩ = some (.slice A0_1 l0_1.length c0_1) := (blk_cell BK101.out 1).trans rfl
    have hcz26_2 : w25.cell? ⟨gb101, 2, none⟩ = some (.slice A0_2 l0_2.length c0_2) := (blk_cell BK101.out 2).trans rfl
    have hcz26_3 : w25.cell? ⟨gb101, 3, none⟩ = some (.slice A0_3 l0_3.length c0_3) := (blk_cell BK101.out 3).trans rfl
    have hfz26_0 := blk_frozen BK101.out 0
    have hfz26_1 := blk_frozen BK101.out 1
    have hfz26_2 := blk_frozen BK101.out 2
    have hfz26_3 := blk_frozen BK101.out 3
    obtain ⟨Ao27, co27, eo27⟩ := Kd.R_slice HO110.out
    subst eo27
    try go_wp2_with (first | ((with_reducible refine gate_callee (f := 21) rfl ?_); refine goesL_ (some 46) rfl rfl Tryz.func21 (by kernel_rfl) rfl #[.slice A0_0 l0_0.length c0_0, .slice Ao27 t107.length co27, .int .i64 a1] rfl xS ?_; (with_reducible refine (bump_Edits.calls _ _ l0_0 _ _ t107 a1 t112 _ ?side1 ?side2 ?side3 ?side4 A21.out).mono ?_); (case side1 => repeat (first | exact (Kd.C_below HR0_0.out HB.out) | (with_reducible refine Kd.C_alloc ?_ _) | (with_reducible refine Kd.C_drewN ?_ _) | (with_reducible refine Kd.C_drew ?_))); (case side2 => exact HC0_0.out); (case side3 => repeat (first | exact (Kd.R_reads' HO110.out).2.2 | (with_reducible refine Kd.C_alloc ?_ _) | (with_reducible refine Kd.C_drewN ?_ _) | (with_reducible refine Kd.C_drew ?_))); (case side4 => exact (Kd.R_reads' HO110.out).2.1); rintro e w28 ⟨v113, rfl, ho0, hb⟩; refine ⟨_, rfl, ?_⟩; replace HO106 := Aside0.mk (Kd.R_below (by (with_reducible repeat (first | apply Kd.R_alloc | apply Kd.R_drewN | apply Kd.R_drew)); exact HO106.out) hb); replace HO110 := Aside0.mk (Kd.R_below (by (with_reducible repeat (first | apply Kd.R_alloc | apply Kd.R_drewN | apply Kd.R_drew)); exact HO110.out) hb); have HO114 := Aside0.mk (Kd.R_lower ho0 (below_size xB)); replace BK101 := Aside0.mk (blk_below (g := gb101) (o := .cells #[.slice A0_0 l0_0.length c0_0, .slice A0_1 l0_1.length c0_1, .slice A0_2 l0_2.length c0_2, .slice A0_3 l0_3.length c0_3] 42 (0, 0)) xK hb); replace HB := Aside0.mk (below_step xB hb); (try clear hb); (try clear hb2); (try clear hk); (try clear hi); (try clear ho0)))
    go_loopg [8, 9] kj2 (fun kq v8 v9 w' => ∃ (x8_2 : Int) (x9_2 : Int), v8 = .int .i64 x8_2 ∧ v9 = .int .i64 x9_2 ∧ Aside0 (armadalaw18_BumpEdits.l0 kq a1 t107 t112 x8_2 x9_2 l0_0 l0_1 l0_2 l0_3 = some r) ∧ Aside0 (kq ≤ kj2) ∧ Aside0 (Kd.R k30 30 w' w.heap.size (fun _ => True) (.slice Ao27 t107.length co27) t107) ∧ Aside0 (Kd.R k69 69 w' w.heap.size (fun _ => True) v113 t112) ∧ Aside0 (w'.heap[gb101]? = some (.cells #[(.slice A0_0 l0_0.length c0_0), (.slice A0_1 l0_1.length c0_1), (.slice A0_2 l0_2.length c0_2), (.slice A0_3 l0_3.length c0_3)] 42 (0, 0))) ∧ Aside0 (Below w.heap.size w w'))
    case atStart => exact ⟨(0), (0), xR, xR, H', ⟨Nat.le_refl _⟩, ⟨by (with_reducible repeat (first | apply Kd.R_alloc | apply Kd.R_drewN | apply Kd.R_drew)); exact HO110.out⟩, ⟨by (with_reducible repeat (first | apply Kd.R_alloc | apply Kd.R_drewN | apply Kd.R_drew)); exact HO114.out⟩, ⟨by (with_reducible repeat (first | refine blk_drewN ?_ _ | refine blk_drew ?_ | refine blk_alloc ?_ _)); exact BK101.out⟩, ⟨xB⟩⟩
    case round =>
     clear H'
     try clear c1
     try clear c2
     try clear p2
     try clear c6
     try clear c7
     try clear c7b0
     try clear c9
     try clear c14
     try clear c15
     try clear c16
     try clear c20
     try clear c20b0
     try clear c20b1
     try clear c21
     try clear hcz10_0
     try clear hcz10_1
     try clear hcz10_2
     try clear hcz10_3
     try clear hcz12_0
     try clear hcz12_1
     try clear hcz12_2
     try clear hcz12_3
     try clear hcz13_0
     try clear hcz13_1
     try clear hcz13_2
     try clear hcz13_3
     try clear hcz26_0
     try clear hcz26_1
     try clear hcz26_2
     try clear hcz26_3
     try clear hcz8_0
     try clear hcz8_1
     try clear hcz8_2
     try clear hcz8_3
     try clear hfz10_0
     try clear hfz10_1
     try clear hfz10_2
     try clear hfz10_3
     try clear hfz12_0
     try clear hfz12_1
     try clear hfz12_2
     try clear hfz12_3
     try clear hfz13_0
     try clear hfz13_1
     try clear hfz13_2
     try clear hfz13_3
     try clear hfz26_0
     try clear hfz26_1
     try clear hfz26_2
     try clear hfz26_3
     try clear hfz8_0
     try clear hfz8_1
     try clear hfz8_2
     try clear hfz8_3
     try clear p2
     obtain ⟨x8_2, x9_2, rfl, rfl, HA, HK2, HO_5, HO_7, BK101, HB⟩ := hrel
     cases gk with
     | zero => exact absurd HA.out (by simp [armadalaw18_BumpEdits.l0])
     | succ k2 =>
      have H := HA.out
      clear HA
      simp only [armadalaw18_BumpEdits.l0] at H
      replace H := xI H
      obtain ⟨c29, H⟩ := H
      have c29b0 := decide_eq_true c29
      clear c29
      replace H := xI H
      obtain ⟨c30, H⟩ := H
      have c30b0 := decide_eq_true c30
      clear c30
      by_cases c31 : x9_2 < (((rd_T63 l0_0 a1).f2).length : Int)
      ·
       rw [if_pos c31] at H
       have c31b0 := decide_eq_true c31
       clear c31
       have H' := Aside0.mk H
       clear H
       have hcz32_0 : wr.cell? ⟨gb101, 0, none⟩ = some (.slice A0_0 l0_0.length c0_0) := (blk_cell BK101.out 0).trans rfl
       have hcz32_1 : wr.cell? ⟨gb101, 1, none⟩ = some (.slice A0_1 l0_1.length c0_1) := (blk_cell BK101.out 1).trans rfl
       have hcz32_2 : wr.cell? ⟨gb101, 2, none⟩ = some (.slice A0_2 l0_2.length c0_2) := (blk_cell BK101.out 2).trans rfl
       have hcz32_3 : wr.cell? ⟨gb101, 3, none⟩ = some (.slice A0_3 l0_3.length c0_3) := (blk_cell BK101.out 3).trans rfl
       have hfz32_0 := blk_frozen BK101.out 0
       have hfz32_1 := blk_frozen BK101.out 1
       have hfz32_2 := blk_frozen BK101.out 2
       have hfz32_3 := blk_frozen BK101.out 3
       have p115 : 0 ≤ (a1 : Int) := xD
       have q115 : a1 < (l0_0.length : Int) := xD
       obtain ⟨ad115, A115_2, c115_2, e115, hx115_0, hx115_1, hx115_2, hl115_2, hi115_2⟩ := at_T63 HR0_0.out a1 p115 q115
       cases e115
       replace hx115_0 := (HB.out.cell (World.block_lt_of_cell? w _ hx115_0)).trans hx115_0
       replace hx115_1 := (HB.out.cell (World.block_lt_of_cell? w _ hx115_1)).trans hx115_1
       replace hx115_2 := (HB.out.cell (World.block_lt_of_cell? w _ hx115_2)).trans hx115_2
       have HR115_2 := Aside0.mk hi115_2
       have HC115_2 := Aside0.mk hl115_2
       clear hi115_2 hl115_2
       replace p115 := eq_true p115
       replace q115 := eq_true q115
       go_wp2
       go_loopg [8, 10] k2 (fun kq v8 v10 w' => ∃ (x8_3 : Int) (x10_3 : Int), v8 = .int .i64 x8_3 ∧ v10 = .int .i64 x10_3 ∧ Aside0 (armadalaw18_BumpEdits.l1 kq a1 t107 t112 x8_3 x9_2 x10_3 l0_0 l0_1 l0_2 l0_3 = some r) ∧ Aside0 (kq ≤ k2) ∧ Aside0 (Kd.R k30 30 w' w.heap.size (fun _ => True) (.slice Ao27 t107.length co27) t107) ∧ Aside0 (Kd.R k69 69 w' w.heap.size (fun _ => True) v113 t112) ∧ Aside0 (w'.heap[gb101]? = some (.cells #[(.slice (some ad115) l0_0.length c0_0), (.slice A0_1 l0_1.length c0_1), (.slice A0_2 l0_2.length c0_2), (.slice A0_3 l0_3.length c0_3)] 42 (0, 0))) ∧ Aside0 (Below w.heap.size w w'))
       case atStart => exact ⟨(x8_2), (0), xR, xR, H', ⟨Nat.le_refl _⟩, ⟨by (with_reducible repeat (first | apply Kd.R_alloc | apply Kd.R_drewN | apply Kd.R_drew)); exact HO_5.out⟩, ⟨by (with_reducible repeat (first | apply Kd.R_alloc | apply Kd.R_drewN | apply Kd.R_drew)); exact HO_7.out⟩, ⟨by (with_reducible repeat (first | refine blk_drewN ?_ _ | refine blk_drew ?_ | refine blk_alloc ?_ _)); exact BK101.out⟩, ⟨xB⟩⟩
       case round =>
        clear H'
        try clear c1
        try clear p1
        try clear q1
        try clear hx1
        try clear c2
        try clear p2
        try clear c3
        try clear c6
        try clear c7
        try clear c7b0
        try clear c9
        try clear c11
        try clear p11
        try clear q11
        try clear hx11
        try clear c14
        try clear c15
        try clear c16
        try clear c20
        try clear c20b0
        try clear c20b1
        try clear c21
        try clear c29
        try clear c29b0
        try clear c30
        try clear c30b0
        try clear c31
        try clear c31b0
        try clear hcz10_0
        try clear hcz10_1
        try clear hcz10_2
        try clear hcz10_3
        try clear hcz12_0
        try clear hcz12_1
        try clear hcz12_2
        try clear hcz12_3
        try clear hcz13_0
        try clear hcz13_1
        try clear hcz13_2
        try clear hcz13_3
        try clear hcz26_0
        try clear hcz26_1
        try clear hcz26_2
        try clear hcz26_3
        try clear hcz32_0
        try clear hcz32_1
        try clear hcz32_2
        try clear hcz32_3
        try clear hcz8_0
        try clear hcz8_1
        try clear hcz8_2
        try clear hcz8_3
        try clear hfz10_0
        try clear hfz10_1
        try clear hfz10_2
        try clear hfz10_3
        try clear hfz12_0
        try clear hfz12_1
        try clear hfz12_2
        try clear hfz12_3
        try clear hfz13_0
        try clear hfz13_1
        try clear hfz13_2
        try clear hfz13_3
        try clear hfz26_0
        try clear hfz26_1
        try clear hfz26_2
        try clear hfz26_3
        try clear hfz32_0
        try clear hfz32_1
        try clear hfz32_2
        try clear hfz32_3
        try clear hfz8_0
        try clear hfz8_1
        try clear hfz8_2
        try clear hfz8_3
        try clear hx115_0
        try clear hx115_1
        try clear hx115_2
        try clear p115
        try clear p2
        try clear q115
        obtain ⟨x8_3, x10_3, rfl, rfl, HA, HK3, HO_5, HO_7, BK101, HB⟩ := hrel
        cases gk with
        | zero => exact absurd HA.out (by simp [armadalaw18_BumpEdits.l1])
        | succ k3 =>
         have H := HA.out
         clear HA
         simp only [armadalaw18_BumpEdits.l1] at H
         by_cases c33 : x10_3 < (t107.length : Int)
         ·
          rw [if_pos c33] at H
          have c33b0 := decide_eq_true c33
          clear c33
          have HC34 := Aside0.mk H
          clear H
          go_upto_region 14 with (fail)
          go_cut [80] (fun v80 wc => ∃ (kq : Nat) (x80_33 : Bool), v80 = .bool x80_33 ∧ Aside0 (armadalaw18_BumpEdits.j3 kq a1 t107 t112 x8_3 x9_2 x10_3 x80_33 l0_0 l0_1 l0_2 l0_3 = some r) ∧ Aside0 (kq ≤ k3) ∧ Aside0 (Kd.R k30 30 wc w.heap.size (fun _ => True) (.slice Ao27 t107.length co27) t107) ∧ Aside0 (Kd.R k69 69 wc w.heap.size (fun _ => True) v113 t112) ∧ Aside0 (wc.heap[gb101]? = some (.cells #[(.slice (some ad115) l0_0.length c0_0), (.slice A0_1 l0_1.length c0_1), (.slice A0_2 l0_2.length c0_2), (.slice A0_3 l0_3.length c0_3)] 42 (0, 0))) ∧ Aside0 (Below w.heap.size w wc))
          case first =>
           have H := HC34.out
           clear HC34
           replace H := xI H
           obtain ⟨c35, H⟩ := H
           have c35b0 := decide_eq_true c35
           clear c35
           (first | rw [c35b0] | (simp only [i64_w, i32_w]; rw [c35b0]) | skip)
           by_cases c36 : ((rd_T30 t107 x10_3).f0) < 0
           ·
            rw [if_pos c36] at H
            have c36b0 := decide_eq_true c36
            clear c36
            have H' := Aside0.mk H
            clear H
            try go_wp2
            have n0_ := Aside0.mk (Kd.R_drew HO_5.out)
            have n1_ := Aside0.mk (Kd.R_drew HO_7.out)
            have n2_ := Aside0.mk (blk_drew BK101.out)
            have n3_ := Aside0.mk (below_drew1 HB.out)
            clear HO_5
            clear HO_7
            clear BK101
            clear HB
            have HO_5 := n0_
            have HO_7 := n1_
            have BK101 := n2_
            have HB := n3_
            clear n0_ n1_ n2_ n3_
            have p117 : 0 ≤ (x10_3 : Int) := xD
            have q117 : x10_3 < (t107.length : Int) := xD
            obtain ⟨ad117, e117, hx117_0, hx117_1, hx117_2, hx117_3, hx117_4, hx117_5, hx117_6, hx117_7, hx117_8, hx117_9, hx117_10, hx117_11, hx117_12⟩ := at_T30 (Kd.R_reads' HO_5.out).2.2 x10_3 p117 q117
            cases e117
            replace p117 := eq_true p117
            replace q117 := eq_true q117
            refine start_ (n := 17) (S := fun w' => w'.cell? (ad117.add ((x10_3).toNat * 13)) = some (.int .i64 ((rd_T30 t107 x10_3).f0)) ∧ w'.cell? ⟨(ad117.add ((x10_3).toNat * 13)).block, (ad117.add ((x10_3).toNat * 13)).off + 1, none⟩ = some (.bool ((rd_T30 t107 x10_3).f1)) ∧ w'.cell? ⟨(ad117.add ((x10_3).toNat * 13)).block, (ad117.add ((x10_3).toNat * 13)).off + 2, none⟩ = some (.int .i64 ((rd_T30 t107 x10_3).f2.f0)) ∧ w'.cell? ⟨(ad117.add ((x10_3).toNat * 13)).block, (ad117.add ((x10_3).toNat * 13)).off + 3, none⟩ = some (.int .i64 ((rd_T30 t107 x10_3).f2.f1)) ∧ w'.cell? ⟨(ad117.add ((x10_3).toNat * 13)).block, (ad117.add ((x10_3).toNat * 13)).off + 4, none⟩ = some (.int .i64 ((rd_T30 t107 x10_3).f2.f2)) ∧ w'.cell? ⟨(ad117.add ((x10_3).toNat * 13)).block, (ad117.add ((x10_3).toNat * 13)).off + 5, none⟩ = some (.string ((rd_T30 t107 x10_3).f2.f3)) ∧ w'.cell? ⟨(ad117.add ((x10_3).toNat * 13)).block, (ad117.add ((x10_3).toNat * 13)).off + 6, none⟩ = some (.string ((rd_T30 t107 x10_3).f2.f4)) ∧ w'.cell? ⟨(ad117.add ((x10_3).toNat * 13)).block, (ad117.add ((x10_3).toNat * 13)).off + 7, none⟩ = some (.int .i64 ((rd_T30 t107 x10_3).f3.f0)) ∧ w'.cell? ⟨(ad117.add ((x10_3).toNat * 13)).block, (ad117.add ((x10_3).toNat * 13)).off + 8, none⟩ = some (.int .i64 ((rd_T30 t107 x10_3).f3.f1)) ∧ w'.cell? ⟨(ad117.add ((x10_3).toNat * 13)).block, (ad117.add ((x10_3).toNat * 13)).off + 9, none⟩ = some (.int .i64 ((rd_T30 t107 x10_3).f3.f2)) ∧ w'.cell? ⟨(ad117.add ((x10_3).toNat * 13)).block, (ad117.add ((x10_3).toNat * 13)).off + 10, none⟩ = some (.string ((rd_T30 t107 x10_3).f3.f3)) ∧ w'.cell? ⟨(ad117.add ((x10_3).toNat * 13)).block, (ad117.add ((x10_3).toNat * 13)).off + 11, none⟩ = some (.string ((rd_T30 t107 x10_3).f3.f4)) ∧ w'.cell? ⟨(ad117.add ((x10_3).toNat * 13)).block, (ad117.add ((x10_3).toNat * 13)).off + 12, none⟩ = some (.int .i64 ((rd_T30 t107 x10_3).f4))) (ds := []) #[ff, ff, ff, ff, ff, ff, ff, ff, ff, ff, ff, ff, ff, ff, ff, ff, ff] (by kernel_rfl) rfl rfl ⟨hx117_0, hx117_1, hx117_2, hx117_3, hx117_4, hx117_5, hx117_6, hx117_7, hx117_8, hx117_9, hx117_10, hx117_11, hx117_12⟩ (fun hHeld => ?_); refine with_tabW armadalaw18_BumpEdits.tab14 armadalaw18_BumpEdits.bits14 (fun HT_ HW_ => ?_)
            generalize wr.drew = w37 at HO_5 HO_7 BK101 HB hx117_0 hx117_1 hx117_10 hx117_11 hx117_12 hx117_2 hx117_3 hx117_4 hx117_5 hx117_6 hx117_7 hx117_8 hx117_9 hHeld ⊢
            refine pure_ (i := 0) (N := some 64) (v := ?_) (a' := ?_) #[tt, ff, ff, ff, ff, ff, ff, ff, ff, ff, ff, ff, ff, ff, ff, ff, ff] rfl rfl (any_of HT_.out (by kernel_rfl)) (fun _ _ _ h => h) (Or.inl ⟨by rfl, ?_⟩) ?_ ?_
            rotate_left
            ·
             intro w'
             go_simp
             with_reducible rfl
            rotate_left
            ·
             simp only [Act.put, List.setIfInBounds_toArray, List.set_cons_zero, List.set_cons_succ, i64_w, i32_w]
             rfl
            refine pure_ (i := 1) (N := some 65) (v := ?_) (a' := ?_) #[tt, tt, ff, ff, ff, ff, ff, ff, ff, ff, ff, ff, ff, ff, ff, ff, ff] rfl rfl (any_of HT_.out (by kernel_rfl)) (fun _ _ _ h => h) (Or.inl ⟨by rfl, ?_⟩) ?_ ?_
            rotate_left
            ·
             intro w'
             go_simp
             with_reducible rfl
            rotate_left
            ·
             simp only [Act.put, List.setIfInBounds_toArray, List.set_cons_zero, List.set_cons_succ, i64_w, i32_w]
             rfl
            refine pure_ (i := 2) (N := some 66) (v := ?_) (a' := ?_) #[tt, tt, tt, ff, ff, ff, ff, ff, ff, ff, ff, ff, ff, ff, ff, ff, ff] rfl rfl (any_of HT_.out (by kernel_rfl)) (fun _ _ _ h => h) (Or.inl ⟨by rfl, ?_⟩) ?_ ?_
            rotate_left
            ·
             intro w'
             go_simp
             with_reducible rfl
            rotate_left
            ·
             simp only [Act.put, List.setIfInBounds_toArray, List.set_cons_zero, List.set_cons_succ, i64_w, i32_w]
             rfl
            refine pure_ (i := 3) (N := some 67) (v := ?_) (a' := ?_) #[tt, tt, tt, tt, ff, ff, ff, ff, ff, ff, ff, ff, ff, ff, ff, ff, ff] rfl rfl (any_of HT_.out (by kernel_rfl)) (fun _ _ _ h => h) (Or.inl ⟨by rfl, ?_⟩) ?_ ?_
            rotate_left
            ·
             intro w'
             go_simp
             with_reducible rfl
            rotate_left
            ·
             simp only [Act.put, List.setIfInBounds_toArray, List.set_cons_zero, List.set_cons_succ, i64_w, i32_w]
             rfl
            refine take_ (i := 4) (N := some 68) (v := ?_) (a' := ?_) #[tt, tt, tt, tt, tt, ff, ff, ff, ff, ff, ff, ff, ff, ff, ff, ff, ff] rfl rfl (take_ofW HT_.out HW_.out (by kernel_rfl)) (fun _ _ _ h => h) (Or.inl ⟨by rfl, ?_⟩) hHeld ?_ ?_
            rotate_left
            ·
             rintro w' ⟨s0, s1, s2, s3, s4, s5, s6, s7, s8, s9, s10, s11, s12⟩
             go_simp
             with_reducible rfl
            rotate_left
            ·
             simp only [Act.put, List.setIfInBounds_toArray, List.set_cons_zero, List.set_cons_succ, i64_w, i32_w]
             rfl
            refine pure_ (i := 5) (N := some 69) (v := ?_) (a' := ?_) #[tt, tt, tt, tt, tt, tt, ff, ff, ff, ff, ff, ff, ff, ff, ff, ff, ff] rfl rfl (any_of HT_.out (by kernel_rfl)) (fun _ _ _ h => h) (Or.inl ⟨by rfl, ?_⟩) ?_ ?_
            rotate_left
            ·
             intro w'
             go_simp
             with_reducible rfl
            rotate_left
            ·
             simp only [Act.put, List.setIfInBounds_toArray, List.set_cons_zero, List.set_cons_succ, i64_w, i32_w]
             rfl
            refine pure_ (i := 6) (N := some 70) (v := ?_) (a' := ?_) #[tt, tt, tt, tt, tt, tt, tt, ff, ff, ff, ff, ff, ff, ff, ff, ff, ff] rfl rfl (any_of HT_.out (by kernel_rfl)) (fun _ _ _ h => h) (Or.inl ⟨by rfl, ?_⟩) ?_ ?_
            rotate_left
            ·
             intro w'
             go_simp
             with_reducible rfl
            rotate_left
            ·
             simp only [Act.put, List.setIfInBounds_toArray, List.set_cons_zero, List.set_cons_succ, i64_w, i32_w]
             rfl
            refine pure_ (i := 7) (N := some 71) (v := undef) (a' := ?_) #[tt, tt, tt, tt, tt, tt, tt, tt, ff, ff, ff, ff, ff, ff, ff, ff, ff] rfl rfl (any_of HT_.out (by kernel_rfl)) (fun _ _ _ h => h) (Or.inr ⟨by rfl, rfl⟩) ?_ ?_
            rotate_left
            ·
             simp only [Act.put, List.setIfInBounds_toArray, List.set_cons_zero, List.set_cons_succ, i64_w, i32_w]
             rfl
            refine pure_ (i := 8) (N := some 72) (v := undef) (a' := ?_) #[tt, tt, tt, tt, tt, tt, tt, tt, tt, ff, ff, ff, ff, ff, ff, ff, ff] rfl rfl (any_of HT_.out (by kernel_rfl)) (fun _ _ _ h => h) (Or.inr ⟨by rfl, rfl⟩) ?_ ?_
            rotate_left
            ·
             simp only [Act.put, List.setIfInBounds_toArray, List.set_cons_zero, List.set_cons_succ, i64_w, i32_w]
             rfl
            refine pure_ (i := 9) (N := some 73) (v := undef) (a' := ?_) #[tt, tt, tt, tt, tt, tt, tt, tt, tt, tt, ff, ff, ff, ff, ff, ff, ff] rfl rfl (any_of HT_.out (by kernel_rfl)) (fun _ _ _ h => h) (Or.inr ⟨by rfl, rfl⟩) ?_ ?_
            rotate_left
            ·
             simp only [Act.put, List.setIfInBounds_toArray, List.set_cons_zero, List.set_cons_succ, i64_w, i32_w]
             rfl
            refine pure_ (i := 10) (N := some 74) (v := undef) (a' := ?_) #[tt, tt, tt, tt, tt, tt, tt, tt, tt, tt, tt, ff, ff, ff, ff, ff, ff] rfl rfl (any_of HT_.out (by kernel_rfl)) (fun _ _ _ h => h) (Or.inr ⟨by rfl, rfl⟩) ?_ ?_
            rotate_left
            ·
             simp only [Act.put, List.setIfInBounds_toArray, List.set_cons_zero, List.set_cons_succ, i64_w, i32_w]
             rfl
            refine pure_ (i := 11) (N := some 75) (v := undef) (a' := ?_) #[tt, tt, tt, tt, tt, tt, tt, tt, tt, tt, tt, tt, ff, ff, ff, ff, ff] rfl rfl (any_of HT_.out (by kernel_rfl)) (fun _ _ _ h => h) (Or.inr ⟨by rfl, rfl⟩) ?_ ?_
            rotate_left
            ·
             simp only [Act.put, List.setIfInBounds_toArray, List.set_cons_zero, List.set_cons_succ, i64_w, i32_w]
             rfl
            refine pure_ (i := 12) (N := some 76) (v := undef) (a' := ?_) #[tt, tt, tt, tt, tt, tt, tt, tt, tt, tt, tt, tt, tt, ff, ff, ff, ff] rfl rfl (any_of HT_.out (by kernel_rfl)) (fun _ _ _ h => h) (Or.inr ⟨by rfl, rfl⟩) ?_ ?_
            rotate_left
            ·
             simp only [Act.put, List.setIfInBounds_toArray, List.set_cons_zero, List.set_cons_succ, i64_w, i32_w]
             rfl
            refine pure_ (i := 13) (N := some 77) (v := undef) (a' := ?_) #[tt, tt, tt, tt, tt, tt, tt, tt, tt, tt, tt, tt, tt, tt, ff, ff, ff] rfl rfl (any_of HT_.out (by kernel_rfl)) (fun _ _ _ h => h) (Or.inr ⟨by rfl, rfl⟩) ?_ ?_
            rotate_left
            ·
             simp only [Act.put, List.setIfInBounds_toArray, List.set_cons_zero, List.set_cons_succ, i64_w, i32_w]
             rfl
            refine pure_ (i := 14) (N := some 78) (v := undef) (a' := ?_) #[tt, tt, tt, tt, tt, tt, tt, tt, tt, tt, tt, tt, tt, tt, tt, ff, ff] rfl rfl (any_of HT_.out (by kernel_rfl)) (fun _ _ _ h => h) (Or.inr ⟨by rfl, rfl⟩) ?_ ?_
            rotate_left
            ·
             simp only [Act.put, List.setIfInBounds_toArray, List.set_cons_zero, List.set_cons_succ, i64_w, i32_w]
             rfl
            refine pure_ (i := 15) (N := some 79) (v := undef) (a' := ?_) #[tt, tt, tt, tt, tt, tt, tt, tt, tt, tt, tt, tt, tt, tt, tt, tt, ff] rfl rfl (any_of HT_.out (by kernel_rfl)) (fun _ _ _ h => h) (Or.inr ⟨by rfl, rfl⟩) ?_ ?_
            rotate_left
            ·
             simp only [Act.put, List.setIfInBounds_toArray, List.set_cons_zero, List.set_cons_succ, i64_w, i32_w]
             rfl
            refine pure_ (i := 16) (N := some 80) (v := ?_) (a' := ?_) #[tt, tt, tt, tt, tt, tt, tt, tt, tt, tt, tt, tt, tt, tt, tt, tt, tt] rfl rfl (any_of HT_.out (by kernel_rfl)) (fun _ _ _ h => h) (Or.inl ⟨by rfl, ?_⟩) ?_ ?_
            rotate_left
            ·
             intro w'
             go_simp
             with_reducible rfl
            rotate_left
            ·
             simp only [Act.put, List.setIfInBounds_toArray, List.set_cons_zero, List.set_cons_succ, i64_w, i32_w]
             rfl
            refine done_ (done_of HT_.out (by kernel_rfl)) ?_
            try go_wp2
            go_meet
            case rel => exact ⟨_, (true), xR, H', ⟨by have := HJ2.out; have := HK2.out; have := HK3.out; first | omega | exact Nat.le_refl _⟩, ⟨by (with_reducible repeat (first | apply Kd.R_alloc | apply Kd.R_drewN | apply Kd.R_drew)); exact HO_5.out⟩, ⟨by (with_reducible repeat (first | apply Kd.R_alloc | apply Kd.R_drewN | apply Kd.R_drew)); exact HO_7.out⟩, ⟨by (with_reducible repeat (first | refine blk_drewN ?_ _ | refine blk_drew ?_ | refine blk_alloc ?_ _)); exact BK101.out⟩, ⟨xB⟩⟩
           rw [if_neg c36] at H
           have c36b0 := decide_eq_false c36
           clear c36
           have H' := Aside0.mk H
           clear H
           try go_wp2
           have n0_ := Aside0.mk (Kd.R_drew HO_5.out)
           have n1_ := Aside0.mk (Kd.R_drew HO_7.out)
           have n2_ := Aside0.mk (blk_drew BK101.out)
           have n3_ := Aside0.mk (below_drew1 HB.out)
           clear HO_5
           clear HO_7
           clear BK101
           clear HB
           have HO_5 := n0_
           have HO_7 := n1_
           have BK101 := n2_
           have HB := n3_
           clear n0_ n1_ n2_ n3_
           have p117 : 0 ≤ (x10_3 : Int) := xD
           have q117 : x10_3 < (t107.length : Int) := xD
           obtain ⟨ad117, e117, hx117_0, hx117_1, hx117_2, hx117_3, hx117_4, hx117_5, hx117_6, hx117_7, hx117_8, hx117_9, hx117_10, hx117_11, hx117_12⟩ := at_T30 (Kd.R_reads' HO_5.out).2.2 x10_3 p117 q117
           cases e117
           replace p117 := eq_true p117
           replace q117 := eq_true q117
           have p118 : 0 ≤ (x10_3 : Int) := xD
           have q118 : x10_3 < (t107.length : Int) := xD
           obtain ⟨ad118, e118, hx118_0, hx118_1, hx118_2, hx118_3, hx118_4, hx118_5, hx118_6, hx118_7, hx118_8, hx118_9, hx118_10, hx118_11, hx118_12⟩ := at_T30 (Kd.R_reads' HO_5.out).2.2 x10_3 p118 q118
           obtain rfl : ad117 = ad118 := (by injection e118)
           replace p118 := eq_true p118
           replace q118 := eq_true q118
           refine start_ (n := 17) (S := fun w' => w'.cell? ⟨gb101, 0, none⟩ = some (.slice (some ad115) l0_0.length c0_0) ∧ w'.cell? ⟨gb101, 1, none⟩ = some (.slice A0_1 l0_1.length c0_1) ∧ w'.cell? ⟨gb101, 2, none⟩ = some (.slice A0_2 l0_2.length c0_2) ∧ w'.cell? ⟨gb101, 3, none⟩ = some (.slice A0_3 l0_3.length c0_3) ∧ w'.cell? (ad117.add ((x10_3).toNat * 13)) = some (.int .i64 ((rd_T30 t107 x10_3).f0)) ∧ w'.cell? ⟨(ad117.add ((x10_3).toNat * 13)).block, (ad117.add ((x10_3).toNat * 13)).off + 1, none⟩ = some (.bool ((rd_T30 t107 x10_3).f1)) ∧ w'.cell? ⟨(ad117.add ((x10_3).toNat * 13)).block, (ad117.add ((x10_3).toNat * 13)).off + 2, none⟩ = some (.int .i64 ((rd_T30 t107 x10_3).f2.f0)) ∧ w'.cell? ⟨(ad117.add ((x10_3).toNat * 13)).block, (ad117.add ((x10_3).toNat * 13)).off + 3, none⟩ = some (.int .i64 ((rd_T30 t107 x10_3).f2.f1)) ∧ w'.cell? ⟨(ad117.add ((x10_3).toNat * 13)).block, (ad117.add ((x10_3).toNat * 13)).off + 4, none⟩ = some (.int .i64 ((rd_T30 t107 x10_3).f2.f2)) ∧ w'.cell? ⟨(ad117.add ((x10_3).toNat * 13)).block, (ad117.add ((x10_3).toNat * 13)).off + 5, none⟩ = some (.string ((rd_T30 t107 x10_3).f2.f3)) ∧ w'.cell? ⟨(ad117.add ((x10_3).toNat * 13)).block, (ad117.add ((x10_3).toNat * 13)).off + 6, none⟩ = some (.string ((rd_T30 t107 x10_3).f2.f4)) ∧ w'.cell? ⟨(ad117.add ((x10_3).toNat * 13)).block, (ad117.add ((x10_3).toNat * 13)).off + 7, none⟩ = some (.int .i64 ((rd_T30 t107 x10_3).f3.f0)) ∧ w'.cell? ⟨(ad117.add ((x10_3).toNat * 13)).block, (ad117.add ((x10_3).toNat * 13)).off + 8, none⟩ = some (.int .i64 ((rd_T30 t107 x10_3).f3.f1)) ∧ w'.cell? ⟨(ad117.add ((x10_3).toNat * 13)).block, (ad117.add ((x10_3).toNat * 13)).off + 9, none⟩ = some (.int .i64 ((rd_T30 t107 x10_3).f3.f2)) ∧ w'.cell? ⟨(ad117.add ((x10_3).toNat * 13)).block, (ad117.add ((x10_3).toNat * 13)).off + 10, none⟩ = some (.string ((rd_T30 t107 x10_3).f3.f3)) ∧ w'.cell? ⟨(ad117.add ((x10_3).toNat * 13)).block, (ad117.add ((x10_3).toNat * 13)).off + 11, none⟩ = some (.string ((rd_T30 t107 x10_3).f3.f4)) ∧ w'.cell? ⟨(ad117.add ((x10_3).toNat * 13)).block, (ad117.add ((x10_3).toNat * 13)).off + 12, none⟩ = some (.int .i64 ((rd_T30 t107 x10_3).f4)) ∧ w'.cell? (ad117.add ((x10_3).toNat * 13)) = some (.int .i64 ((rd_T30 t107 x10_3).f0)) ∧ w'.cell? ⟨(ad117.add ((x10_3).toNat * 13)).block, (ad117.add ((x10_3).toNat * 13)).off + 1, none⟩ = some (.bool ((rd_T30 t107 x10_3).f1)) ∧ w'.cell? ⟨(ad117.add ((x10_3).toNat * 13)).block, (ad117.add ((x10_3).toNat * 13)).off + 2, none⟩ = some (.int .i64 ((rd_T30 t107 x10_3).f2.f0)) ∧ w'.cell? ⟨(ad117.add ((x10_3).toNat * 13)).block, (ad117.add ((x10_3).toNat * 13)).off + 3, none⟩ = some (.int .i64 ((rd_T30 t107 x10_3).f2.f1)) ∧ w'.cell? ⟨(ad117.add ((x10_3).toNat * 13)).block, (ad117.add ((x10_3).toNat * 13)).off + 4, none⟩ = some (.int .i64 ((rd_T30 t107 x10_3).f2.f2)) ∧ w'.cell? ⟨(ad117.add ((x10_3).toNat * 13)).block, (ad117.add ((x10_3).toNat * 13)).off + 5, none⟩ = some (.string ((rd_T30 t107 x10_3).f2.f3)) ∧ w'.cell? ⟨(ad117.add ((x10_3).toNat * 13)).block, (ad117.add ((x10_3).toNat * 13)).off + 6, none⟩ = some (.string ((rd_T30 t107 x10_3).f2.f4)) ∧ w'.cell? ⟨(ad117.add ((x10_3).toNat * 13)).block, (ad117.add ((x10_3).toNat * 13)).off + 7, none⟩ = some (.int .i64 ((rd_T30 t107 x10_3).f3.f0)) ∧ w'.cell? ⟨(ad117.add ((x10_3).toNat * 13)).block, (ad117.add ((x10_3).toNat * 13)).off + 8, none⟩ = some (.int .i64 ((rd_T30 t107 x10_3).f3.f1)) ∧ w'.cell? ⟨(ad117.add ((x10_3).toNat * 13)).block, (ad117.add ((x10_3).toNat * 13)).off + 9, none⟩ = some (.int .i64 ((rd_T30 t107 x10_3).f3.f2)) ∧ w'.cell? ⟨(ad117.add ((x10_3).toNat * 13)).block, (ad117.add ((x10_3).toNat * 13)).off + 10, none⟩ = some (.string ((rd_T30 t107 x10_3).f3.f3)) ∧ w'.cell? ⟨(ad117.add ((x10_3).toNat * 13)).block, (ad117.add ((x10_3).toNat * 13)).off + 11, none⟩ = some (.string ((rd_T30 t107 x10_3).f3.f4)) ∧ w'.cell? ⟨(ad117.add ((x10_3).toNat * 13)).block, (ad117.add ((x10_3).toNat * 13)).off + 12, none⟩ = some (.int .i64 ((rd_T30 t107 x10_3).f4))) (ds := []) #[ff, ff, ff, ff, ff, ff, ff, ff, ff, ff, ff, ff, ff, ff, ff, ff, ff] (by kernel_rfl) rfl rfl ⟨(blk_cell BK101.out 0).trans rfl, (blk_cell BK101.out 1).trans rfl, (blk_cell BK101.out 2).trans rfl, (blk_cell BK101.out 3).trans rfl, hx117_0, hx117_1, hx117_2, hx117_3, hx117_4, hx117_5, hx117_6, hx117_7, hx117_8, hx117_9, hx117_10, hx117_11, hx117_12, hx118_0, hx118_1, hx118_2, hx118_3, hx118_4, hx118_5, hx118_6, hx118_7, hx118_8, hx118_9, hx118_10, hx118_11, hx118_12⟩ (fun hHeld => ?_); refine with_tabW armadalaw18_BumpEdits.tab14 armadalaw18_BumpEdits.bits14 (fun HT_ HW_ => ?_)
           generalize wr.drew = w38 at HO_5 HO_7 BK101 HB hx117_0 hx117_1 hx117_10 hx117_11 hx117_12 hx117_2 hx117_3 hx117_4 hx117_5 hx117_6 hx117_7 hx117_8 hx117_9 hx118_0 hx118_1 hx118_10 hx118_11 hx118_12 hx118_2 hx118_3 hx118_4 hx118_5 hx118_6 hx118_7 hx118_8 hx118_9 hHeld ⊢
           refine pure_ (i := 0) (N := some 64) (v := ?_) (a' := ?_) #[tt, ff, ff, ff, ff, ff, ff, ff, ff, ff, ff, ff, ff, ff, ff, ff, ff] rfl rfl (any_of HT_.out (by kernel_rfl)) (fun _ _ _ h => h) (Or.inl ⟨by rfl, ?_⟩) ?_ ?_
           rotate_left
           ·
            intro w'
            go_simp
            with_reducible rfl
           rotate_left
           ·
            simp only [Act.put, List.setIfInBounds_toArray, List.set_cons_zero, List.set_cons_succ, i64_w, i32_w]
            rfl
           refine pure_ (i := 1) (N := some 65) (v := ?_) (a' := ?_) #[tt, tt, ff, ff, ff, ff, ff, ff, ff, ff, ff, ff, ff, ff, ff, ff, ff] rfl rfl (any_of HT_.out (by kernel_rfl)) (fun _ _ _ h => h) (Or.inl ⟨by rfl, ?_⟩) ?_ ?_
           rotate_left
           ·
            intro w'
            go_simp
            with_reducible rfl
           rotate_left
           ·
            simp only [Act.put, List.setIfInBounds_toArray, List.set_cons_zero, List.set_cons_succ, i64_w, i32_w]
            rfl
           refine pure_ (i := 2) (N := some 66) (v := ?_) (a' := ?_) #[tt, tt, tt, ff, ff, ff, ff, ff, ff, ff, ff, ff, ff, ff, ff, ff, ff] rfl rfl (any_of HT_.out (by kernel_rfl)) (fun _ _ _ h => h) (Or.inl ⟨by rfl, ?_⟩) ?_ ?_
           rotate_left
           ·
            intro w'
            go_simp
            with_reducible rfl
           rotate_left
           ·
            simp only [Act.put, List.setIfInBounds_toArray, List.set_cons_zero, List.set_cons_succ, i64_w, i32_w]
            rfl
           refine pure_ (i := 3) (N := some 67) (v := ?_) (a' := ?_) #[tt, tt, tt, tt, ff, ff, ff, ff, ff, ff, ff, ff, ff, ff, ff, ff, ff] rfl rfl (any_of HT_.out (by kernel_rfl)) (fun _ _ _ h => h) (Or.inl ⟨by rfl, ?_⟩) ?_ ?_
           rotate_left
           ·
            intro w'
            go_simp
            with_reducible rfl
           rotate_left
           ·
            simp only [Act.put, List.setIfInBounds_toArray, List.set_cons_zero, List.set_cons_succ, i64_w, i32_w]
            rfl
           refine take_ (i := 4) (N := some 68) (v := ?_) (a' := ?_) #[tt, tt, tt, tt, tt, ff, ff, ff, ff, ff, ff, ff, ff, ff, ff, ff, ff] rfl rfl (take_ofW HT_.out HW_.out (by kernel_rfl)) (fun _ _ _ h => h) (Or.inl ⟨by rfl, ?_⟩) hHeld ?_ ?_
           rotate_left
           ·
            rintro w' ⟨s0, s1, s2, s3, s4, s5, s6, s7, s8, s9, s10, s11, s12, s13, s14, s15, s16, s17, s18, s19, s20, s21, s22, s23, s24, s25, s26, s27, s28, s29⟩
            go_simp
            with_reducible rfl
           rotate_left
           ·
            simp only [Act.put, List.setIfInBounds_toArray, List.set_cons_zero, List.set_cons_succ, i64_w, i32_w]
            rfl
           refine pure_ (i := 5) (N := some 69) (v := ?_) (a' := ?_) #[tt, tt, tt, tt, tt, tt, ff, ff, ff, ff, ff, ff, ff, ff, ff, ff, ff] rfl rfl (any_of HT_.out (by kernel_rfl)) (fun _ _ _ h => h) (Or.inl ⟨by rfl, ?_⟩) ?_ ?_
           rotate_left
           ·
            intro w'
            go_simp
            with_reducible rfl
           rotate_left
           ·
            simp only [Act.put, List.setIfInBounds_toArray, List.set_cons_zero, List.set_cons_succ, i64_w, i32_w]
            rfl
           refine pure_ (i := 6) (N := some 70) (v := ?_) (a' := ?_) #[tt, tt, tt, tt, tt, tt, tt, ff, ff, ff, ff, ff, ff, ff, ff, ff, ff] rfl rfl (any_of HT_.out (by kernel_rfl)) (fun _ _ _ h => h) (Or.inl ⟨by rfl, ?_⟩) ?_ ?_
           rotate_left
           ·
            intro w'
            go_simp
            with_reducible rfl
           rotate_left
           ·
            simp only [Act.put, List.setIfInBounds_toArray, List.set_cons_zero, List.set_cons_succ, i64_w, i32_w]
            rfl
           refine pure_ (i := 7) (N := some 71) (v := ?_) (a' := ?_) #[tt, tt, tt, tt, tt, tt, tt, tt, ff, ff, ff, ff, ff, ff, ff, ff, ff] rfl rfl (any_of HT_.out (by kernel_rfl)) (fun _ _ _ h => h) (Or.inl ⟨by rfl, ?_⟩) ?_ ?_
           rotate_left
           ·
            intro w'
            go_simp
            with_reducible rfl
           rotate_left
           ·
            simp only [Act.put, List.setIfInBounds_toArray, List.set_cons_zero, List.set_cons_succ, i64_w, i32_w]
            rfl
           refine pure_ (i := 8) (N := some 72) (v := ?_) (a' := ?_) #[tt, tt, tt, tt, tt, tt, tt, tt, tt, ff, ff, ff, ff, ff, ff, ff, ff] rfl rfl (any_of HT_.out (by kernel_rfl)) (fun _ _ _ h => h) (Or.inl ⟨by rfl, ?_⟩) ?_ ?_
           rotate_left
           ·
            intro w'
            go_simp
            with_reducible rfl
           rotate_left
           ·
            simp only [Act.put, List.setIfInBounds_toArray, List.set_cons_zero, List.set_cons_succ, i64_w, i32_w]
            rfl
           refine pure_ (i := 9) (N := some 73) (v := ?_) (a' := ?_) #[tt, tt, tt, tt, tt, tt, tt, tt, tt, tt, ff, ff, ff, ff, ff, ff, ff] rfl rfl (any_of HT_.out (by kernel_rfl)) (fun _ _ _ h => h) (Or.inl ⟨by rfl, ?_⟩) ?_ ?_
           rotate_left
           ·
            intro w'
            go_simp
            with_reducible rfl
           rotate_left
           ·
            simp only [Act.put, List.setIfInBounds_toArray, List.set_cons_zero, List.set_cons_succ, i64_w, i32_w]
            rfl
           refine pure_ (i := 10) (N := some 74) (v := ?_) (a' := ?_) #[tt, tt, tt, tt, tt, tt, tt, tt, tt, tt, tt, ff, ff, ff, ff, ff, ff] rfl rfl (any_of HT_.out (by kernel_rfl)) (fun _ _ _ h => h) (Or.inl ⟨by rfl, ?_⟩) ?_ ?_
           rotate_left
           ·
            intro w'
            go_simp
            with_reducible rfl
           rotate_left
           ·
            simp only [Act.put, List.setIfInBounds_toArray, List.set_cons_zero, List.set_cons_succ, i64_w, i32_w]
            rfl
           refine pure_ (i := 12) (N := some 76) (v := ?_) (a' := ?_) #[tt, tt, tt, tt, tt, tt, tt, tt, tt, tt, tt, ff, tt, ff, ff, ff, ff] rfl rfl (any_of HT_.out (by kernel_rfl)) (fun _ _ _ h => h) (Or.inl ⟨by rfl, ?_⟩) ?_ ?_
           rotate_left
           ·
            intro w'
            go_simp
            with_reducible rfl
           rotate_left
           ·
            simp only [Act.put, List.setIfInBounds_toArray, List.set_cons_zero, List.set_cons_succ, i64_w, i32_w]
            rfl
           refine take_ (i := 11) (N := some 75) (v := ?_) (a' := ?_) #[tt, tt, tt, tt, tt, tt, tt, tt, tt, tt, tt, tt, tt, ff, ff, ff, ff] rfl rfl (take_ofW HT_.out HW_.out (by kernel_rfl)) (fun _ _ _ h => h) (Or.inl ⟨by rfl, ?_⟩) hHeld ?_ ?_
           rotate_left
           ·
            rintro w' ⟨s0, s1, s2, s3, s4, s5, s6, s7, s8, s9, s10, s11, s12, s13, s14, s15, s16, s17, s18, s19, s20, s21, s22, s23, s24, s25, s26, s27, s28, s29⟩
            go_simp
            with_reducible rfl
           rotate_left
           ·
            simp only [Act.put, List.setIfInBounds_toArray, List.set_cons_zero, List.set_cons_succ, i64_w, i32_w]
            rfl
           refine take_ (i := 13) (N := some 77) (v := ?_) (a' := ?_) #[tt, tt, tt, tt, tt, tt, tt, tt, tt, tt, tt, tt, tt, tt, ff, ff, ff] rfl rfl (take_ofW HT_.out HW_.out (by kernel_rfl)) (fun _ _ _ h => h) (Or.inl ⟨by rfl, ?_⟩) hHeld ?_ ?_
           rotate_left
           ·
            rintro w' ⟨s0, s1, s2, s3, s4, s5, s6, s7, s8, s9, s10, s11, s12, s13, s14, s15, s16, s17, s18, s19, s20, s21, s22, s23, s24, s25, s26, s27, s28, s29⟩
            go_simp
            with_reducible rfl
           rotate_left
           ·
            simp only [Act.put, List.setIfInBounds_toArray, List.set_cons_zero, List.set_cons_succ, i64_w, i32_w]
            rfl
           refine pure_ (i := 14) (N := some 78) (v := ?_) (a' := ?_) #[tt, tt, tt, tt, tt, tt, tt, tt, tt, tt, tt, tt, tt, tt, tt, ff, ff] rfl rfl (any_of HT_.out (by kernel_rfl)) (fun _ _ _ h => h) (Or.inl ⟨by rfl, ?_⟩) ?_ ?_
           rotate_left
           ·
            intro w'
            go_simp
            with_reducible rfl
           rotate_left
           ·
            simp only [Act.put, List.setIfInBounds_toArray, List.set_cons_zero, List.set_cons_succ, i64_w, i32_w]
            rfl
           refine pure_ (i := 15) (N := some 79) (v := ?_) (a' := ?_) #[tt, tt, tt, tt, tt, tt, tt, tt, tt, tt, tt, tt, tt, tt, tt, tt, ff] rfl rfl (any_of HT_.out (by kernel_rfl)) (fun _ _ _ h => h) (Or.inl ⟨by rfl, ?_⟩) ?_ ?_
           rotate_left
           ·
            intro w'
            go_simp
            with_reducible rfl
           rotate_left
           ·
            simp only [Act.put, List.setIfInBounds_toArray, List.set_cons_zero, List.set_cons_succ, i64_w, i32_w]
            rfl
           refine pure_ (i := 16) (N := some 80) (v := ?_) (a' := ?_) #[tt, tt, tt, tt, tt, tt, tt, tt, tt, tt, tt, tt, tt, tt, tt, tt, tt] rfl rfl (any_of HT_.out (by kernel_rfl)) (fun _ _ _ h => h) (Or.inl ⟨by rfl, ?_⟩) ?_ ?_
           rotate_left
           ·
            intro w'
            go_simp
            with_reducible rfl
           rotate_left
           ·
            simp only [Act.put, List.setIfInBounds_toArray, List.set_cons_zero, List.set_cons_succ, i64_w, i32_w]
            rfl
           refine done_ (done_of HT_.out (by kernel_rfl)) ?_
           try go_wp2
           go_meet
           case rel => exact ⟨_, (decide (((rd_T30 t107 x10_3).f0) ≥ (l0_0.length : Int))), xR, H', ⟨by have := HJ2.out; have := HK2.out; have := HK3.out; first | omega | exact Nat.le_refl _⟩, ⟨by (with_reducible repeat (first | apply Kd.R_alloc | apply Kd.R_drewN | apply Kd.R_drew)); exact HO_5.out⟩, ⟨by (with_reducible repeat (first | apply Kd.R_alloc | apply Kd.R_drewN | apply Kd.R_drew)); exact HO_7.out⟩, ⟨by (with_reducible repeat (first | refine blk_drewN ?_ _ | refine blk_drew ?_ | refine blk_alloc ?_ _)); exact BK101.out⟩, ⟨xB⟩⟩
          case rest =>
           clear HC34
           try clear c1
           try clear p1
           try clear q1
           try clear hx1
           try clear c2
           try clear p2
           try clear c3
           try clear c6
           try clear c7
           try clear c7b0
           try clear c9
           try clear c11
           try clear p11
           try clear q11
           try clear hx11
           try clear c14
           try clear c15
           try clear c16
           try clear c20
           try clear c20b0
           try clear c20b1
           try clear c21
           try clear c29
           try clear c29b0
           try clear c30
           try clear c30b0
           try clear c31
           try clear c31b0
           try clear c33
           try clear c33b0
           try clear c35
           try clear c35b0
           try clear c36
           try clear c36b0
           try clear hcz10_0
           try clear hcz10_1
           try clear hcz10_2
           try clear hcz10_3
           try clear hcz12_0
           try clear hcz12_1
           try clear hcz12_2
           try clear hcz12_3
           try clear hcz13_0
           try clear hcz13_1
           try clear hcz13_2
           try clear hcz13_3
           try clear hcz26_0
           try clear hcz26_1
           try clear hcz26_2
           try clear hcz26_3
           try clear hcz32_0
           try clear hcz32_1
           try clear hcz32_2
           try clear hcz32_3
           try clear hcz8_0
           try clear hcz8_1
           try clear hcz8_2
           try clear hcz8_3
           try clear hfz10_0
           try clear hfz10_1
           try clear hfz10_2
           try clear hfz10_3
           try clear hfz12_0
           try clear hfz12_1
           try clear hfz12_2
           try clear hfz12_3
           try clear hfz13_0
           try clear hfz13_1
           try clear hfz13_2
           try clear hfz13_3
           try clear hfz26_0
           try clear hfz26_1
           try clear hfz26_2
           try clear hfz26_3
           try clear hfz32_0
           try clear hfz32_1
           try clear hfz32_2
           try clear hfz32_3
           try clear hfz8_0
           try clear hfz8_1
           try clear hfz8_2
           try clear hfz8_3
           try clear hx115_0
           try clear hx115_1
           try clear hx115_2
           try clear hx117_0
           try clear hx117_1
           try clear hx117_10
           try clear hx117_11
           try clear hx117_12
           try clear hx117_2
           try clear hx117_3
           try clear hx117_4
           try clear hx117_5
           try clear hx117_6
           try clear hx117_7
           try clear hx117_8
           try clear hx117_9
           try clear hx118_0
           try clear hx118_1
           try clear hx118_10
           try clear hx118_11
           try clear hx118_12
           try clear hx118_2
           try clear hx118_3
           try clear hx118_4
           try clear hx118_5
           try clear hx118_6
           try clear hx118_7
           try clear hx118_8
           try clear hx118_9
           try clear p1
           try clear p11
           try clear p115
           try clear p117
           try clear p118
           try clear p2
           try clear q1
           try clear q11
           try clear q115
           try clear q117
           try clear q118
           obtain ⟨kq, x80_33, rfl, HA, HJ33, HO_5, HO_7, BK101, HB⟩ := hcut
           cases kq with
           | zero => exact absurd HA.out (by simp [armadalaw18_BumpEdits.j3])
           | succ kj33 =>
            have H := HA.out
            clear HA
            simp only [armadalaw18_BumpEdits.j3] at H
            by_cases c39 : x80_33 = true
            ·
             subst c39
             rw [if_pos rfl] at H
             exact absurd ((Option.some.inj H).trans HTRU_.out) (by decide)
            replace c39 := Bool.eq_false_iff.mpr c39
            subst c39
            rw [if_neg (show ¬ (false = true) by decide)] at H
            replace H := xI H
            obtain ⟨c40, H⟩ := H
            have c40b0 := decide_eq_true c40
            clear c40
            replace H := xI H
            obtain ⟨c41, H⟩ := H
            have c41b0 := decide_eq_true c41
            clear c41
            replace H := xI H
            obtain ⟨c42, H⟩ := H
            have c42b0 := decide_eq_true c42
            clear c42
            replace H := xI H
            obtain ⟨c43, H⟩ := H
            have c43b0 := decide_eq_true c43
            clear c43
            replace H := xI H
            obtain ⟨c44, H⟩ := H
            have c44b0 := decide_eq_true c44
            clear c44
            replace H := xI H
            obtain ⟨c45, H⟩ := H
            have c45b0 := decide_eq_true c45
            clear c45
            replace H := xI H
            obtain ⟨c46, H⟩ := H
            have c46b0 := decide_eq_true c46
            clear c46
            replace H := xI H
            obtain ⟨c47, H⟩ := H
            have c47b0 := decide_eq_true c47
            clear c47
            by_cases c48 : ((rd_T63 l0_0 ((rd_T30 t107 x10_3).f0)).f1).toList = ((rd_T69 ((rd_T63 l0_0 a1).f2) x9_2).f0).toList
            ·
             rw [if_pos c48] at H
             have c48b0 := beq_iff_eq.mpr c48
             have c48b1 := bne_eq_false_iff_eq.mpr c48
             clear c48
             by_cases c49 : x8_3 ≥ (t112.length : Int)
             ·
              rw [if_pos c49] at H
              have c49b0 := decide_eq_true c49
              clear c49
              exact absurd ((Option.some.inj H).trans HTRU_.out) (by decide)
             rw [if_neg c49] at H
             have c49b0 := decide_eq_false c49
             clear c49
             replace H := xI H
             obtain ⟨c50, H⟩ := H
             have c50b0 := decide_eq_true c50
             clear c50
             replace H := xI H
             obtain ⟨c51, H⟩ := H
             have c51b0 := decide_eq_true c51
             clear c51
             by_cases c52 : ((rd_T69 t112 x8_3).f0).toList = ((rd_T69 ((rd_T63 l0_0 a1).f2) x9_2).f0).toList
             ·
              rw [if_pos c52] at H
              have c52b0 := beq_iff_eq.mpr c52
              have c52b1 := bne_eq_false_iff_eq.mpr c52
              clear c52
              by_cases c53 : (!(((rd_T69 t112 x8_3).f1.f0) == ((rd_T30 t107 x10_3).f3.f0)) || (!(((rd_T69 t112 x8_3).f1.f1) == ((rd_T30 t107 x10_3).f3.f1)) || (!(((rd_T69 t112 x8_3).f1.f2) == ((rd_T30 t107 x10_3).f3.f2)) || (!((((rd_T69 t112 x8_3).f1.f3).toList) == (((rd_T30 t107 x10_3).f3.f3).toList)) || (!((((rd_T69 t112 x8_3).f1.f4).toList) == (((rd_T30 t107 x10_3).f3.f4).toList))))))) = true
              ·
               rw [if_pos c53] at H
               have c53b0 : (!(((rd_T69 t112 x8_3).f1.f0) == ((rd_T30 t107 x10_3).f3.f0)) || (!(((rd_T69 t112 x8_3).f1.f1) == ((rd_T30 t107 x10_3).f3.f1)) || (!(((rd_T69 t112 x8_3).f1.f2) == ((rd_T30 t107 x10_3).f3.f2)) || (!((((rd_T69 t112 x8_3).f1.f3).toList) == (((rd_T30 t107 x10_3).f3.f3).toList)) || (!((((rd_T69 t112 x8_3).f1.f4).toList) == (((rd_T30 t107 x10_3).f3.f4).toList))))))) = true := c53
               clear c53
               exact absurd ((Option.some.inj H).trans HTRU_.out) (by decide)
              rw [if_neg c53] at H
              have c53b0 : (!(((rd_T69 t112 x8_3).f1.f0) == ((rd_T30 t107 x10_3).f3.f0)) || (!(((rd_T69 t112 x8_3).f1.f1) == ((rd_T30 t107 x10_3).f3.f1)) || (!(((rd_T69 t112 x8_3).f1.f2) == ((rd_T30 t107 x10_3).f3.f2)) || (!((((rd_T69 t112 x8_3).f1.f3).toList) == (((rd_T30 t107 x10_3).f3.f3).toList)) || (!((((rd_T69 t112 x8_3).f1.f4).toList) == (((rd_T30 t107 x10_3).f3.f4).toList))))))) = false := by simpa using c53
              clear c53
              have H' := Aside0.mk H
              clear H
              try go_wp2
              have n0_ := Aside0.mk (Kd.R_drew HO_5.out)
              have n1_ := Aside0.mk (Kd.R_drew HO_7.out)
              have n2_ := Aside0.mk (blk_drew BK101.out)
              have n3_ := Aside0.mk (below_drew1 HB.out)
              clear HO_5
              clear HO_7
              clear BK101
              clear HB
              have HO_5 := n0_
              have HO_7 := n1_
              have BK101 := n2_
              have HB := n3_
              clear n0_ n1_ n2_ n3_
              have p119 : 0 ≤ (x10_3 : Int) := xD
              have q119 : x10_3 < (t107.length : Int) := xD
              obtain ⟨ad119, e119, hx119_0, hx119_1, hx119_2, hx119_3, hx119_4, hx119_5, hx119_6, hx119_7, hx119_8, hx119_9, hx119_10, hx119_11, hx119_12⟩ := at_T30 (Kd.R_reads' HO_5.out).2.2 x10_3 p119 q119
              cases e119
              replace p119 := eq_true p119
              replace q119 := eq_true q119
              have p120 : 0 ≤ (((rd_T30 t107 x10_3).f0) : Int) := xD
              have q120 : ((rd_T30 t107 x10_3).f0) < (l0_0.length : Int) := xD
              obtain ⟨ad120, A120_2, c120_2, e120, hx120_0, hx120_1, hx120_2, hl120_2, hi120_2⟩ := at_T63 HR0_0.out ((rd_T30 t107 x10_3).f0) p120 q120
              have hw120_2 := hx120_2
              have hw120_1 := hx120_1
              have hw120_0 := hx120_0
              obtain rfl : ad115 = ad120 := (by injection e120)
              replace hx120_0 := (HB.out.cell (World.block_lt_of_cell? w _ hx120_0)).trans hx120_0
              replace hx120_1 := (HB.out.cell (World.block_lt_of_cell? w _ hx120_1)).trans hx120_1
              replace hx120_2 := (HB.out.cell (World.block_lt_of_cell? w _ hx120_2)).trans hx120_2
              have HR120_2 := Aside0.mk hi120_2
              have HC120_2 := Aside0.mk hl120_2
              clear hi120_2 hl120_2
              replace p120 := eq_true p120
              replace q120 := eq_true q120
              have p121 : 0 ≤ (a1 : Int) := xD
              have q121 : a1 < (l0_0.length : Int) := xD
              obtain ⟨ad121, A121_2, c121_2, e121, hx121_0, hx121_1, hx121_2, hl121_2, hi121_2⟩ := at_T63 HR0_0.out a1 p121 q121
              have hw121_2 := hx121_2
              have hw121_1 := hx121_1
              have hw121_0 := hx121_0
              obtain rfl : ad115 = ad121 := (by injection e121)
              replace hx121_0 := (HB.out.cell (World.block_lt_of_cell? w _ hx121_0)).trans hx121_0
              replace hx121_1 := (HB.out.cell (World.block_lt_of_cell? w _ hx121_1)).trans hx121_1
              replace hx121_2 := (HB.out.cell (World.block_lt_of_cell? w _ hx121_2)).trans hx121_2
              have HR121_2 := Aside0.mk hi121_2
              have HC121_2 := Aside0.mk hl121_2
              clear hi121_2 hl121_2
              replace p121 := eq_true p121
              replace q121 := eq_true q121
              have p122 : 0 ≤ (x9_2 : Int) := xD
              have q122 : x9_2 < (((rd_T63 l0_0 a1).f2).length : Int) := xD
              obtain ⟨ad122, e122, hx122_0, hx122_1, hx122_2, hx122_3, hx122_4, hx122_5⟩ := at_T69 HR121_2.out x9_2 p122 q122
              have hw122_5 := hx122_5
              have hw122_4 := hx122_4
              have hw122_3 := hx122_3
              have hw122_2 := hx122_2
              have hw122_1 := hx122_1
              have hw122_0 := hx122_0
              cases e122
              replace hx122_0 := (HB.out.cell (World.block_lt_of_cell? w _ hx122_0)).trans hx122_0
              replace hx122_1 := (HB.out.cell (World.block_lt_of_cell? w _ hx122_1)).trans hx122_1
              replace hx122_2 := (HB.out.cell (World.block_lt_of_cell? w _ hx122_2)).trans hx122_2
              replace hx122_3 := (HB.out.cell (World.block_lt_of_cell? w _ hx122_3)).trans hx122_3
              replace hx122_4 := (HB.out.cell (World.block_lt_of_cell? w _ hx122_4)).trans hx122_4
              replace hx122_5 := (HB.out.cell (World.block_lt_of_cell? w _ hx122_5)).trans hx122_5
              replace p122 := eq_true p122
              replace q122 := eq_true q122
              refine start_ (n := 21) (S := fun w' => w'.cell? ⟨gb101, 0, none⟩ = some (.slice (some ad115) l0_0.length c0_0) ∧ w'.cell? ⟨gb101, 1, none⟩ = some (.slice A0_1 l0_1.length c0_1) ∧ w'.cell? ⟨gb101, 2, none⟩ = some (.slice A0_2 l0_2.length c0_2) ∧ w'.cell? ⟨gb101, 3, none⟩ = some (.slice A0_3 l0_3.length c0_3) ∧ w'.cell? (ad119.add ((x10_3).toNat * 13)) = some (.int .i64 ((rd_T30 t107 x10_3).f0)) ∧ w'.cell? ⟨(ad119.add ((x10_3).toNat * 13)).block, (ad119.add ((x10_3).toNat * 13)).off + 1, none⟩ = some (.bool ((rd_T30 t107 x10_3).f1)) ∧ w'.cell? ⟨(ad119.add ((x10_3).toNat * 13)).block, (ad119.add ((x10_3).toNat * 13)).off + 2, none⟩ = some (.int .i64 ((rd_T30 t107 x10_3).f2.f0)) ∧ w'.cell? ⟨(ad119.add ((x10_3).toNat * 13)).block, (ad119.add ((x10_3).toNat * 13)).off + 3, none⟩ = some (.int .i64 ((rd_T30 t107 x10_3).f2.f1)) ∧ w'.cell? ⟨(ad119.add ((x10_3).toNat * 13)).block, (ad119.add ((x10_3).toNat * 13)).off + 4, none⟩ = some (.int .i64 ((rd_T30 t107 x10_3).f2.f2)) ∧ w'.cell? ⟨(ad119.add ((x10_3).toNat * 13)).block, (ad119.add ((x10_3).toNat * 13)).off + 5, none⟩ = some (.string ((rd_T30 t107 x10_3).f2.f3)) ∧ w'.cell? ⟨(ad119.add ((x10_3).toNat * 13)).block, (ad119.add ((x10_3).toNat * 13)).off + 6, none⟩ = some (.string ((rd_T30 t107 x10_3).f2.f4)) ∧ w'.cell? ⟨(ad119.add ((x10_3).toNat * 13)).block, (ad119.add ((x10_3).toNat * 13)).off + 7, none⟩ = some (.int .i64 ((rd_T30 t107 x10_3).f3.f0)) ∧ w'.cell? ⟨(ad119.add ((x10_3).toNat * 13)).block, (ad119.add ((x10_3).toNat * 13)).off + 8, none⟩ = some (.int .i64 ((rd_T30 t107 x10_3).f3.f1)) ∧ w'.cell? ⟨(ad119.add ((x10_3).toNat * 13)).block, (ad119.add ((x10_3).toNat * 13)).off + 9, none⟩ = some (.int .i64 ((rd_T30 t107 x10_3).f3.f2)) ∧ w'.cell? ⟨(ad119.add ((x10_3).toNat * 13)).block, (ad119.add ((x10_3).toNat * 13)).off + 10, none⟩ = some (.string ((rd_T30 t107 x10_3).f3.f3)) ∧ w'.cell? ⟨(ad119.add ((x10_3).toNat * 13)).block, (ad119.add ((x10_3).toNat * 13)).off + 11, none⟩ = some (.string ((rd_T30 t107 x10_3).f3.f4)) ∧ w'.cell? ⟨(ad119.add ((x10_3).toNat * 13)).block, (ad119.add ((x10_3).toNat * 13)).off + 12, none⟩ = some (.int .i64 ((rd_T30 t107 x10_3).f4)) ∧ w'.cell? (ad115.add ((((rd_T30 t107 x10_3).f0)).toNat * 3)) = some (.string ((rd_T63 l0_0 ((rd_T30 t107 x10_3).f0)).f0)) ∧ w'.cell? ⟨(ad115.add ((((rd_T30 t107 x10_3).f0)).toNat * 3)).block, (ad115.add ((((rd_T30 t107 x10_3).f0)).toNat * 3)).off + 1, none⟩ = some (.string ((rd_T63 l0_0 ((rd_T30 t107 x10_3).f0)).f1)) ∧ w'.cell? ⟨(ad115.add ((((rd_T30 t107 x10_3).f0)).toNat * 3)).block, (ad115.add ((((rd_T30 t107 x10_3).f0)).toNat * 3)).off + 2, none⟩ = some (.slice A120_2 ((rd_T63 l0_0 ((rd_T30 t107 x10_3).f0)).f2).length c120_2) ∧ w'.cell? (ad115.add ((a1).toNat * 3)) = some (.string ((rd_T63 l0_0 a1).f0)) ∧ w'.cell? ⟨(ad115.add ((a1).toNat * 3)).block, (ad115.add ((a1).toNat * 3)).off + 1, none⟩ = some (.string ((rd_T63 l0_0 a1).f1)) ∧ w'.cell? ⟨(ad115.add ((a1).toNat * 3)).block, (ad115.add ((a1).toNat * 3)).off + 2, none⟩ = some (.slice (some ad122) ((rd_T63 l0_0 a1).f2).length c121_2) ∧ w'.cell? (ad122.add ((x9_2).toNat * 6)) = some (.string ((rd_T69 ((rd_T63 l0_0 a1).f2) x9_2).f0)) ∧ w'.cell? ⟨(ad122.add ((x9_2).toNat * 6)).block, (ad122.add ((x9_2).toNat * 6)).off + 1, none⟩ = some (.int .i64 ((rd_T69 ((rd_T63 l0_0 a1).f2) x9_2).f1.f0)) ∧ w'.cell? ⟨(ad122.add ((x9_2).toNat * 6)).block, (ad122.add ((x9_2).toNat * 6)).off + 2, none⟩ = some (.int .i64 ((rd_T69 ((rd_T63 l0_0 a1).f2) x9_2).f1.f1)) ∧ w'.cell? ⟨(ad122.add ((x9_2).toNat * 6)).block, (ad122.add ((x9_2).toNat * 6)).off + 3, none⟩ = some (.int .i64 ((rd_T69 ((rd_T63 l0_0 a1).f2) x9_2).f1.f2)) ∧ w'.cell? ⟨(ad122.add ((x9_2).toNat * 6)).block, (ad122.add ((x9_2).toNat * 6)).off + 4, none⟩ = some (.string ((rd_T69 ((rd_T63 l0_0 a1).f2) x9_2).f1.f3)) ∧ w'.cell? ⟨(ad122.add ((x9_2).toNat * 6)).block, (ad122.add ((x9_2).toNat * 6)).off + 5, none⟩ = some (.string ((rd_T69 ((rd_T63 l0_0 a1).f2) x9_2).f1.f4))) (ds := []) #[ff, ff, ff, ff, ff, ff, ff, ff, ff, ff, ff, ff, ff, ff, ff, ff, ff, ff, ff, ff, ff] (by kernel_rfl) rfl rfl ⟨(blk_cell BK101.out 0).trans rfl, (blk_cell BK101.out 1).trans rfl, (blk_cell BK101.out 2).trans rfl, (blk_cell BK101.out 3).trans rfl, hx119_0, hx119_1, hx119_2, hx119_3, hx119_4, hx119_5, hx119_6, hx119_7, hx119_8, hx119_9, hx119_10, hx119_11, hx119_12, ((HB.out.cell (World.block_lt_of_cell? w _ hw120_0)).trans hw120_0), ((HB.out.cell (World.block_lt_of_cell? w _ hw120_1)).trans hw120_1), ((HB.out.cell (World.block_lt_of_cell? w _ hw120_2)).trans hw120_2), ((HB.out.cell (World.block_lt_of_cell? w _ hw121_0)).trans hw121_0), ((HB.out.cell (World.block_lt_of_cell? w _ hw121_1)).trans hw121_1), ((HB.out.cell (World.block_lt_of_cell? w _ hw121_2)).trans hw121_2), ((HB.out.cell (World.block_lt_of_cell? w _ hw122_0)).trans hw122_0), ((HB.out.cell (World.block_lt_of_cell? w _ hw122_1)).trans hw122_1), ((HB.out.cell (World.block_lt_of_cell? w _ hw122_2)).trans hw122_2), ((HB.out.cell (World.block_lt_of_cell? w _ hw122_3)).trans hw122_3), ((HB.out.cell (World.block_lt_of_cell? w _ hw122_4)).trans hw122_4), ((HB.out.cell (World.block_lt_of_cell? w _ hw122_5)).trans hw122_5)⟩ (fun hHeld => ?_); refine with_tabW armadalaw18_BumpEdits.tab16 armadalaw18_BumpEdits.bits16 (fun HT_ HW_ => ?_)
              generalize wc.drew = w54 at HO_5 HO_7 BK101 HB HR120_2 HR121_2 hx119_0 hx119_1 hx119_10 hx119_11 hx119_12 hx119_2 hx119_3 hx119_4 hx119_5 hx119_6 hx119_7 hx119_8 hx119_9 hx120_0 hx120_1 hx120_2 hx121_0 hx121_1 hx121_2 hx122_0 hx122_1 hx122_2 hx122_3 hx122_4 hx122_5 hHeld ⊢
              refine pure_ (i := 0) (N := some 81) (v := ?_) (a' := ?_) #[tt, ff, ff, ff, ff, ff, ff, ff, ff, ff, ff, ff, ff, ff, ff, ff, ff, ff, ff, ff, ff] rfl rfl (any_of HT_.out (by kernel_rfl)) (fun _ _ _ h => h) (Or.inl ⟨by rfl, ?_⟩) ?_ ?_
              rotate_left
              ·
               intro w'
               go_simp
               with_reducible rfl
              rotate_left
              ·
               simp only [Act.put, List.setIfInBounds_toArray, List.set_cons_zero, List.set_cons_succ, i64_w, i32_w]
               rfl
              refine pure_ (i := 2) (N := some 83) (v := ?_) (a' := ?_) #[tt, ff, tt, ff, ff, ff, ff, ff, ff, ff, ff, ff, ff, ff, ff, ff, ff, ff, ff, ff, ff] rfl rfl (any_of HT_.out (by kernel_rfl)) (fun _ _ _ h => h) (Or.inl ⟨by rfl, ?_⟩) ?_ ?_
              rotate_left
              ·
               intro w'
               go_simp
               with_reducible rfl
              rotate_left
              ·
               simp only [Act.put, List.setIfInBounds_toArray, List.set_cons_zero, List.set_cons_succ, i64_w, i32_w]
               rfl
              refine pure_ (i := 3) (N := some 84) (v := ?_) (a' := ?_) #[tt, ff, tt, tt, ff, ff, ff, ff, ff, ff, ff, ff, ff, ff, ff, ff, ff, ff, ff, ff, ff] rfl rfl (any_of HT_.out (by kernel_rfl)) (fun _ _ _ h => h) (Or.inl ⟨by rfl, ?_⟩) ?_ ?_
              rotate_left
              ·
               intro w'
               go_simp
               with_reducible rfl
              rotate_left
              ·
               simp only [Act.put, List.setIfInBounds_toArray, List.set_cons_zero, List.set_cons_succ, i64_w, i32_w]
               rfl
              refine pure_ (i := 4) (N := some 85) (v := ?_) (a' := ?_) #[tt, ff, tt, tt, tt, ff, ff, ff, ff, ff, ff, ff, ff, ff, ff, ff, ff, ff, ff, ff, ff] rfl rfl (any_of HT_.out (by kernel_rfl)) (fun _ _ _ h => h) (Or.inl ⟨by rfl, ?_⟩) ?_ ?_
              rotate_left
              ·
               intro w'
               go_simp
               with_reducible rfl
              rotate_left
              ·
               simp only [Act.put, List.setIfInBounds_toArray, List.set_cons_zero, List.set_cons_succ, i64_w, i32_w]
               rfl
              refine pure_ (i := 5) (N := some 86) (v := ?_) (a' := ?_) #[tt, ff, tt, tt, tt, tt, ff, ff, ff, ff, ff, ff, ff, ff, ff, ff, ff, ff, ff, ff, ff] rfl rfl (any_of HT_.out (by kernel_rfl)) (fun _ _ _ h => h) (Or.inl ⟨by rfl, ?_⟩) ?_ ?_
              rotate_left
              ·
               intro w'
               go_simp
               with_reducible rfl
              rotate_left
              ·
               simp only [Act.put, List.setIfInBounds_toArray, List.set_cons_zero, List.set_cons_succ, i64_w, i32_w]
               rfl
              refine pure_ (i := 10) (N := some 91) (v := ?_) (a' := ?_) #[tt, ff, tt, tt, tt, tt, ff, ff, ff, ff, tt, ff, ff, ff, ff, ff, ff, ff, ff, ff, ff] rfl rfl (any_of HT_.out (by kernel_rfl)) (fun _ _ _ h => h) (Or.inl ⟨by rfl, ?_⟩) ?_ ?_
              rotate_left
              ·
               intro w'
               go_simp
               with_reducible rfl
              rotate_left
              ·
               simp only [Act.put, List.setIfInBounds_toArray, List.set_cons_zero, List.set_cons_succ, i64_w, i32_w]
               rfl
              refine pure_ (i := 12) (N := some 93) (v := ?_) (a' := ?_) #[tt, ff, tt, tt, tt, tt, ff, ff, ff, ff, tt, ff, tt, ff, ff, ff, ff, ff, ff, ff, ff] rfl rfl (any_of HT_.out (by kernel_rfl)) (fun _ _ _ h => h) (Or.inl ⟨by rfl, ?_⟩) ?_ ?_
              rotate_left
              ·
               intro w'
               go_simp
               with_reducible rfl
              rotate_left
              ·
               simp only [Act.put, List.setIfInBounds_toArray, List.set_cons_zero, List.set_cons_succ, i64_w, i32_w]
               rfl
              refine pure_ (i := 16) (N := some 97) (v := ?_) (a' := ?_) #[tt, ff, tt, tt, tt, tt, ff, ff, ff, ff, tt, ff, tt, ff, ff, ff, tt, ff, ff, ff, ff] rfl rfl (any_of HT_.out (by kernel_rfl)) (fun _ _ _ h => h) (Or.inl ⟨by rfl, ?_⟩) ?_ ?_
              rotate_left
              ·
               intro w'
               go_simp
               with_reducible rfl
              rotate_left
              ·
               simp only [Act.put, List.setIfInBounds_toArray, List.set_cons_zero, List.set_cons_succ, i64_w, i32_w]
               rfl
              refine take_ (i := 1) (N := some 82) (v := ?_) (a' := ?_) #[tt, tt, tt, tt, tt, tt, ff, ff, ff, ff, tt, ff, tt, ff, ff, ff, tt, ff, ff, ff, ff] rfl rfl (take_ofW HT_.out HW_.out (by kernel_rfl)) (fun _ _ _ h => h) (Or.inl ⟨by rfl, ?_⟩) hHeld ?_ ?_
              rotate_left
              ·
               rintro w' ⟨s0, s1, s2, s3, s4, s5, s6, s7, s8, s9, s10, s11, s12, s13, s14, s15, s16, s17, s18, s19, s20, s21, s22, s23, s24, s25, s26, s27, s28⟩
               go_simp
               with_reducible rfl
              rotate_left
              ·
               simp only [Act.put, List.setIfInBounds_toArray, List.set_cons_zero, List.set_cons_succ, i64_w, i32_w]
               rfl
              refine take_ (i := 6) (N := some 87) (v := ?_) (a' := ?_) #[tt, tt, tt, tt, tt, tt, tt, ff, ff, ff, tt, ff, tt, ff, ff, ff, tt, ff, ff, ff, ff] rfl rfl (take_ofW HT_.out HW_.out (by kernel_rfl)) (fun _ _ _ h => h) (Or.inl ⟨by rfl, ?_⟩) hHeld ?_ ?_
              rotate_left
              ·
               rintro w' ⟨s0, s1, s2, s3, s4, s5, s6, s7, s8, s9, s10, s11, s12, s13, s14, s15, s16, s17, s18, s19, s20, s21, s22, s23, s24, s25, s26, s27, s28⟩
               go_simp
               with_reducible rfl
              rotate_left
              ·
               simp only [Act.put, List.setIfInBounds_toArray, List.set_cons_zero, List.set_cons_succ, i64_w, i32_w]
               rfl
              refine pure_ (i := 7) (N := some 88) (v := ?_) (a' := ?_) #[tt, tt, tt, tt, tt, tt, tt, tt, ff, ff, tt, ff, tt, ff, ff, ff, tt, ff, ff, ff, ff] rfl rfl (any_of HT_.out (by kernel_rfl)) (fun _ _ _ h => h) (Or.inl ⟨by rfl, ?_⟩) ?_ ?_
              rotate_left
              ·
               intro w'
               go_simp
               with_reducible rfl
              rotate_left
              ·
               simp only [Act.put, List.setIfInBounds_toArray, List.set_cons_zero, List.set_cons_succ, i64_w, i32_w]
               rfl
              refine pure_ (i := 8) (N := some 89) (v := ?_) (a' := ?_) #[tt, tt, tt, tt, tt, tt, tt, tt, tt, ff, tt, ff, tt, ff, ff, ff, tt, ff, ff, ff, ff] rfl rfl (any_of HT_.out (by kernel_rfl)) (fun _ _ _ h => h) (Or.inl ⟨by rfl, ?_⟩) ?_ ?_
              rotate_left
              ·
               intro w'
               go_simp
               with_reducible rfl
              rotate_left
              ·
               simp only [Act.put, List.setIfInBounds_toArray, List.set_cons_zero, List.set_cons_succ, i64_w, i32_w]
               rfl
              refine take_ (i := 9) (N := some 90) (v := ?_) (a' := ?_) #[tt, tt, tt, tt, tt, tt, tt, tt, tt, tt, tt, ff, tt, ff, ff, ff, tt, ff, ff, ff, ff] rfl rfl (take_ofW HT_.out HW_.out (by kernel_rfl)) (fun _ _ _ h => h) (Or.inl ⟨by rfl, ?_⟩) hHeld ?_ ?_
              rotate_left
              ·
               rintro w' ⟨s0, s1, s2, s3, s4, s5, s6, s7, s8, s9, s10, s11, s12, s13, s14, s15, s16, s17, s18, s19, s20, s21, s22, s23, s24, s25, s26, s27, s28⟩
               go_simp
               with_reducible rfl
              rotate_left
              ·
               simp only [Act.put, List.setIfInBounds_toArray, List.set_cons_zero, List.set_cons_succ, i64_w, i32_w]
               rfl
              refine take_ (i := 11) (N := some 92) (v := ?_) (a' := ?_) #[tt, tt, tt, tt, tt, tt, tt, tt, tt, tt, tt, tt, tt, ff, ff, ff, tt, ff, ff, ff, ff] rfl rfl (take_ofW HT_.out HW_.out (by kernel_rfl)) (fun _ _ _ h => h) (Or.inl ⟨by rfl, ?_⟩) hHeld ?_ ?_
              rotate_left
              ·
               rintro w' ⟨s0, s1, s2, s3, s4, s5, s6, s7, s8, s9, s10, s11, s12, s13, s14, s15, s16, s17, s18, s19, s20, s21, s22, s23, s24, s25, s26, s27, s28⟩
               go_simp
               with_reducible rfl
              rotate_left
              ·
               simp only [Act.put, List.setIfInBounds_toArray, List.set_cons_zero, List.set_cons_succ, i64_w, i32_w]
               rfl
              refine pure_ (i := 13) (N := some 94) (v := ?_) (a' := ?_) #[tt, tt, tt, tt, tt, tt, tt, tt, tt, tt, tt, tt, tt, tt, ff, ff, tt, ff, ff, ff, ff] rfl rfl (any_of HT_.out (by kernel_rfl)) (fun _ _ _ h => h) (Or.inl ⟨by rfl, ?_⟩) ?_ ?_
              rotate_left
              ·
               intro w'
               go_simp
               with_reducible rfl
              rotate_left
              ·
               simp only [Act.put, List.setIfInBounds_toArray, List.set_cons_zero, List.set_cons_succ, i64_w, i32_w]
               rfl
              refine pure_ (i := 14) (N := some 95) (v := ?_) (a' := ?_) #[tt, tt, tt, tt, tt, tt, tt, tt, tt, tt, tt, tt, tt, tt, tt, ff, tt, ff, ff, ff, ff] rfl rfl (any_of HT_.out (by kernel_rfl)) (fun _ _ _ h => h) (Or.inl ⟨by rfl, ?_⟩) ?_ ?_
              rotate_left
              ·
               intro w'
               go_simp
               with_reducible rfl
              rotate_left
              ·
               simp only [Act.put, List.setIfInBounds_toArray, List.set_cons_zero, List.set_cons_succ, i64_w, i32_w]
               rfl
              refine take_ (i := 15) (N := some 96) (v := ?_) (a' := ?_) #[tt, tt, tt, tt, tt, tt, tt, tt, tt, tt, tt, tt, tt, tt, tt, tt, tt, ff, ff, ff, ff] rfl rfl (take_ofW HT_.out HW_.out (by kernel_rfl)) (fun _ _ _ h => h) (Or.inl ⟨by rfl, ?_⟩) hHeld ?_ ?_
              rotate_left
              ·
               rintro w' ⟨s0, s1, s2, s3, s4, s5, s6, s7, s8, s9, s10, s11, s12, s13, s14, s15, s16, s17, s18, s19, s20, s21, s22, s23, s24, s25, s26, s27, s28⟩
               go_simp
               with_reducible rfl
              rotate_left
              ·
               simp only [Act.put, List.setIfInBounds_toArray, List.set_cons_zero, List.set_cons_succ, i64_w, i32_w]
               rfl
              refine pure_ (i := 17) (N := some 98) (v := ?_) (a' := ?_) #[tt, tt, tt, tt, tt, tt, tt, tt, tt, tt, tt, tt, tt, tt, tt, tt, tt, tt, ff, ff, ff] rfl rfl (any_of HT_.out (by kernel_rfl)) (fun _ _ _ h => h) (Or.inl ⟨by rfl, ?_⟩) ?_ ?_
              rotate_left
              ·
               intro w'
               go_simp
               with_reducible rfl
              rotate_left
              ·
               simp only [Act.put, List.setIfInBounds_toArray, List.set_cons_zero, List.set_cons_succ, i64_w, i32_w]
               rfl
              refine pure_ (i := 18) (N := some 99) (v := ?_) (a' := ?_) #[tt, tt, tt, tt, tt, tt, tt, tt, tt, tt, tt, tt, tt, tt, tt, tt, tt, tt, tt, ff, ff] rfl rfl (any_of HT_.out (by kernel_rfl)) (fun _ _ _ h => h) (Or.inl ⟨by rfl, ?_⟩) ?_ ?_
              rotate_left
              ·
               intro w'
               go_simp
               with_reducible rfl
              rotate_left
              ·
               simp only [Act.put, List.setIfInBounds_toArray, List.set_cons_zero, List.set_cons_succ, i64_w, i32_w]
               rfl
              refine take_ (i := 19) (N := some 100) (v := ?_) (a' := ?_) #[tt, tt, tt, tt, tt, tt, tt, tt, tt, tt, tt, tt, tt, tt, tt, tt, tt, tt, tt, tt, ff] rfl rfl (take_ofW HT_.out HW_.out (by kernel_rfl)) (fun _ _ _ h => h) (Or.inl ⟨by rfl, ?_⟩) hHeld ?_ ?_
              rotate_left
              ·
               rintro w' ⟨s0, s1, s2, s3, s4, s5, s6, s7, s8, s9, s10, s11, s12, s13, s14, s15, s16, s17, s18, s19, s20, s21, s22, s23, s24, s25, s26, s27, s28⟩
               go_simp
               with_reducible rfl
              rotate_left
              ·
               simp only [Act.put, List.setIfInBounds_toArray, List.set_cons_zero, List.set_cons_succ, i64_w, i32_w]
               rfl
              refine pure_ (i := 20) (N := some 101) (v := ?_) (a' := ?_) #[tt, tt, tt, tt, tt, tt, tt, tt, tt, tt, tt, tt, tt, tt, tt, tt, tt, tt, tt, tt, tt] rfl rfl (any_of HT_.out (by kernel_rfl)) (fun _ _ _ h => h) (Or.inl ⟨by rfl, ?_⟩) ?_ ?_
              rotate_left
              ·
               intro w'
               go_simp
               with_reducible rfl
              rotate_left
              ·
               simp only [Act.put, List.setIfInBounds_toArray, List.set_cons_zero, List.set_cons_succ, i64_w, i32_w]
               rfl
              refine done_ (done_of HT_.out (by kernel_rfl)) ?_
              try go_wp2
              have n0_ := Aside0.mk (Kd.R_drew HO_5.out)
              have n1_ := Aside0.mk (Kd.R_drew HO_7.out)
              have n2_ := Aside0.mk (blk_drew BK101.out)
              have n3_ := Aside0.mk (below_drew1 HB.out)
              clear HO_5
              clear HO_7
              clear BK101
              clear HB
              have HO_5 := n0_
              have HO_7 := n1_
              have BK101 := n2_
              have HB := n3_
              clear n0_ n1_ n2_ n3_
              obtain ⟨Ao56, co56, eo56⟩ := Kd.R_slice HO_7.out
              (first | subst eo56 | (injection eo56 with f1_ f2_ f3_; have f4_ := f1_.symm; have f5_ := f3_.symm; clear f1_ f2_ f3_; subst f4_; subst f5_))
              have p123 : 0 ≤ (x8_3 : Int) := xD
              have q123 : x8_3 < (t112.length : Int) := xD
              obtain ⟨ad123, e123, hx123_0, hx123_1, hx123_2, hx123_3, hx123_4, hx123_5⟩ := at_T69 (Kd.R_reads' HO_7.out).2.2 x8_3 p123 q123
              cases e123
              replace p123 := eq_true p123
              replace q123 := eq_true q123
              have p124 : 0 ≤ (a1 : Int) := xD
              have q124 : a1 < (l0_0.length : Int) := xD
              obtain ⟨ad124, A124_2, c124_2, e124, hx124_0, hx124_1, hx124_2, hl124_2, hi124_2⟩ := at_T63 HR0_0.out a1 p124 q124
              have hw124_2 := hx124_2
              have hw124_1 := hx124_1
              have hw124_0 := hx124_0
              obtain rfl : ad115 = ad124 := (by injection e124)
              replace hx124_0 := (HB.out.cell (World.block_lt_of_cell? w _ hx124_0)).trans hx124_0
              replace hx124_1 := (HB.out.cell (World.block_lt_of_cell? w _ hx124_1)).trans hx124_1
              replace hx124_2 := (HB.out.cell (World.block_lt_of_cell? w _ hx124_2)).trans hx124_2
              have HR124_2 := Aside0.mk hi124_2
              have HC124_2 := Aside0.mk hl124_2
              clear hi124_2 hl124_2
              replace p124 := eq_true p124
              replace q124 := eq_true q124
              have p125 : 0 ≤ (x9_2 : Int) := xD
              have q125 : x9_2 < (((rd_T63 l0_0 a1).f2).length : Int) := xD
              obtain ⟨ad125, e125, hx125_0, hx125_1, hx125_2, hx125_3, hx125_4, hx125_5⟩ := at_T69 HR124_2.out x9_2 p125 q125
              have hw125_5 := hx125_5
              have hw125_4 := hx125_4
              have hw125_3 := hx125_3
              have hw125_2 := hx125_2
              have hw125_1 := hx125_1
              have hw125_0 := hx125_0
              cases e125
              replace hx125_0 := (HB.out.cell (World.block_lt_of_cell? w _ hx125_0)).trans hx125_0
              replace hx125_1 := (HB.out.cell (World.block_lt_of_cell? w _ hx125_1)).trans hx125_1
              replace hx125_2 := (HB.out.cell (World.block_lt_of_cell? w _ hx125_2)).trans hx125_2
              replace hx125_3 := (HB.out.cell (World.block_lt_of_cell? w _ hx125_3)).trans hx125_3
              replace hx125_4 := (HB.out.cell (World.block_lt_of_cell? w _ hx125_4)).trans hx125_4
              replace hx125_5 := (HB.out.cell (World.block_lt_of_cell? w _ hx125_5)).trans hx125_5
              replace p125 := eq_true p125
              replace q125 := eq_true q125
              have p126 : 0 ≤ (x8_3 : Int) := xD
              have q126 : x8_3 < (t112.length : Int) := xD
              obtain ⟨ad126, e126, hx126_0, hx126_1, hx126_2, hx126_3, hx126_4, hx126_5⟩ := at_T69 (Kd.R_reads' HO_7.out).2.2 x8_3 p126 q126
              obtain rfl : ad123 = ad126 := (by injection e126)
              replace p126 := eq_true p126
              replace q126 := eq_true q126
              have p127 : 0 ≤ (x10_3 : Int) := xD
              have q127 : x10_3 < (t107.length : Int) := xD
              obtain ⟨ad127, e127, hx127_0, hx127_1, hx127_2, hx127_3, hx127_4, hx127_5, hx127_6, hx127_7, hx127_8, hx127_9, hx127_10, hx127_11, hx127_12⟩ := at_T30 (Kd.R_reads' HO_5.out).2.2 x10_3 p127 q127
              obtain rfl : ad119 = ad127 := (by injection e127)
              replace p127 := eq_true p127
              replace q127 := eq_true q127
              refine start_ (n := 35) (S := fun w' => w'.cell? ⟨gb101, 0, none⟩ = some (.slice (some ad115) l0_0.length c0_0) ∧ w'.cell? ⟨gb101, 1, none⟩ = some (.slice A0_1 l0_1.length c0_1) ∧ w'.cell? ⟨gb101, 2, none⟩ = some (.slice A0_2 l0_2.length c0_2) ∧ w'.cell? ⟨gb101, 3, none⟩ = some (.slice A0_3 l0_3.length c0_3) ∧ w'.cell? (ad123.add ((x8_3).toNat * 6)) = some (.string ((rd_T69 t112 x8_3).f0)) ∧ w'.cell? ⟨(ad123.add ((x8_3).toNat * 6)).block, (ad123.add ((x8_3).toNat * 6)).off + 1, none⟩ = some (.int .i64 ((rd_T69 t112 x8_3).f1.f0)) ∧ w'.cell? ⟨(ad123.add ((x8_3).toNat * 6)).block, (ad123.add ((x8_3).toNat * 6)).off + 2, none⟩ = some (.int .i64 ((rd_T69 t112 x8_3).f1.f1)) ∧ w'.cell? ⟨(ad123.add ((x8_3).toNat * 6)).block, (ad123.add ((x8_3).toNat * 6)).off + 3, none⟩ = some (.int .i64 ((rd_T69 t112 x8_3).f1.f2)) ∧ w'.cell? ⟨(ad123.add ((x8_3).toNat * 6)).block, (ad123.add ((x8_3).toNat * 6)).off + 4, none⟩ = some (.string ((rd_T69 t112 x8_3).f1.f3)) ∧ w'.cell? ⟨(ad123.add ((x8_3).toNat * 6)).block, (ad123.add ((x8_3).toNat * 6)).off + 5, none⟩ = some (.string ((rd_T69 t112 x8_3).f1.f4)) ∧ w'.cell? (ad115.add ((a1).toNat * 3)) = some (.string ((rd_T63 l0_0 a1).f0)) ∧ w'.cell? ⟨(ad115.add ((a1).toNat * 3)).block, (ad115.add ((a1).toNat * 3)).off + 1, none⟩ = some (.string ((rd_T63 l0_0 a1).f1)) ∧ w'.cell? ⟨(ad115.add ((a1).toNat * 3)).block, (ad115.add ((a1).toNat * 3)).off + 2, none⟩ = some (.slice (some ad125) ((rd_T63 l0_0 a1).f2).length c124_2) ∧ w'.cell? (ad125.add ((x9_2).toNat * 6)) = some (.string ((rd_T69 ((rd_T63 l0_0 a1).f2) x9_2).f0)) ∧ w'.cell? ⟨(ad125.add ((x9_2).toNat * 6)).block, (ad125.add ((x9_2).toNat * 6)).off + 1, none⟩ = some (.int .i64 ((rd_T69 ((rd_T63 l0_0 a1).f2) x9_2).f1.f0)) ∧ w'.cell? ⟨(ad125.add ((x9_2).toNat * 6)).block, (ad125.add ((x9_2).toNat * 6)).off + 2, none⟩ = some (.int .i64 ((rd_T69 ((rd_T63 l0_0 a1).f2) x9_2).f1.f1)) ∧ w'.cell? ⟨(ad125.add ((x9_2).toNat * 6)).block, (ad125.add ((x9_2).toNat * 6)).off + 3, none⟩ = some (.int .i64 ((rd_T69 ((rd_T63 l0_0 a1).f2) x9_2).f1.f2)) ∧ w'.cell? ⟨(ad125.add ((x9_2).toNat * 6)).block, (ad125.add ((x9_2).toNat * 6)).off + 4, none⟩ = some (.string ((rd_T69 ((rd_T63 l0_0 a1).f2) x9_2).f1.f3)) ∧ w'.cell? ⟨(ad125.add ((x9_2).toNat * 6)).block, (ad125.add ((x9_2).toNat * 6)).off + 5, none⟩ = some (.string ((rd_T69 ((rd_T63 l0_0 a1).f2) x9_2).f1.f4)) ∧ w'.cell? (ad123.add ((x8_3).toNat * 6)) = some (.string ((rd_T69 t112 x8_3).f0)) ∧ w'.cell? ⟨(ad123.add ((x8_3).toNat * 6)).block, (ad123.add ((x8_3).toNat * 6)).off + 1, none⟩ = some (.int .i64 ((rd_T69 t112 x8_3).f1.f0)) ∧ w'.cell? ⟨(ad123.add ((x8_3).toNat * 6)).block, (ad123.add ((x8_3).toNat * 6)).off + 2, none⟩ = some (.int .i64 ((rd_T69 t112 x8_3).f1.f1)) ∧ w'.cell? ⟨(ad123.add ((x8_3).toNat * 6)).block, (ad123.add ((x8_3).toNat * 6)).off + 3, none⟩ = some (.int .i64 ((rd_T69 t112 x8_3).f1.f2)) ∧ w'.cell? ⟨(ad123.add ((x8_3).toNat * 6)).block, (ad123.add ((x8_3).toNat * 6)).off + 4, none⟩ = some (.string ((rd_T69 t112 x8_3).f1.f3)) ∧ w'.cell? ⟨(ad123.add ((x8_3).toNat * 6)).block, (ad123.add ((x8_3).toNat * 6)).off + 5, none⟩ = some (.string ((rd_T69 t112 x8_3).f1.f4)) ∧ w'.cell? (ad119.add ((x10_3).toNat * 13)) = some (.int .i64 ((rd_T30 t107 x10_3).f0)) ∧ w'.cell? ⟨(ad119.add ((x10_3).toNat * 13)).block, (ad119.add ((x10_3).toNat * 13)).off + 1, none⟩ = some (.bool ((rd_T30 t107 x10_3).f1)) ∧ w'.cell? ⟨(ad119.add ((x10_3).toNat * 13)).block, (ad119.add ((x10_3).toNat * 13)).off + 2, none⟩ = some (.int .i64 ((rd_T30 t107 x10_3).f2.f0)) ∧ w'.cell? ⟨(ad119.add ((x10_3).toNat * 13)).block, (ad119.add ((x10_3).toNat * 13)).off + 3, none⟩ = some (.int .i64 ((rd_T30 t107 x10_3).f2.f1)) ∧ w'.cell? ⟨(ad119.add ((x10_3).toNat * 13)).block, (ad119.add ((x10_3).toNat * 13)).off + 4, none⟩ = some (.int .i64 ((rd_T30 t107 x10_3).f2.f2)) ∧ w'.cell? ⟨(ad119.add ((x10_3).toNat * 13)).block, (ad119.add ((x10_3).toNat * 13)).off + 5, none⟩ = some (.string ((rd_T30 t107 x10_3).f2.f3)) ∧ w'.cell? ⟨(ad119.add ((x10_3).toNat * 13)).block, (ad119.add ((x10_3).toNat * 13)).off + 6, none⟩ = some (.string ((rd_T30 t107 x10_3).f2.f4)) ∧ w'.cell? ⟨(ad119.add ((x10_3).toNat * 13)).block, (ad119.add ((x10_3).toNat * 13)).off + 7, none⟩ = some (.int .i64 ((rd_T30 t107 x10_3).f3.f0)) ∧ w'.cell? ⟨(ad119.add ((x10_3).toNat * 13)).block, (ad119.add ((x10_3).toNat * 13)).off + 8, none⟩ = some (.int .i64 ((rd_T30 t107 x10_3).f3.f1)) ∧ w'.cell? ⟨(ad119.add ((x10_3).toNat * 13)).block, (ad119.add ((x10_3).toNat * 13)).off + 9, none⟩ = some (.int .i64 ((rd_T30 t107 x10_3).f3.f2)) ∧ w'.cell? ⟨(ad119.add ((x10_3).toNat * 13)).block, (ad119.add ((x10_3).toNat * 13)).off + 10, none⟩ = some (.string ((rd_T30 t107 x10_3).f3.f3)) ∧ w'.cell? ⟨(ad119.add ((x10_3).toNat * 13)).block, (ad119.add ((x10_3).toNat * 13)).off + 11, none⟩ = some (.string ((rd_T30 t107 x10_3).f3.f4)) ∧ w'.cell? ⟨(ad119.add ((x10_3).toNat * 13)).block, (ad119.add ((x10_3).toNat * 13)).off + 12, none⟩ = some (.int .i64 ((rd_T30 t107 x10_3).f4))) (ds := []) #[ff, ff, ff, ff, ff, ff, ff, ff, ff, ff, ff, ff, ff, ff, ff, ff, ff, ff, ff, ff, ff, ff, ff, ff, ff, ff, ff, ff, ff, ff, ff, ff, ff, ff, ff] (by kernel_rfl) rfl rfl ⟨(blk_cell BK101.out 0).trans rfl, (blk_cell BK101.out 1).trans rfl, (blk_cell BK101.out 2).trans rfl, (blk_cell BK101.out 3).trans rfl, hx123_0, hx123_1, hx123_2, hx123_3, hx123_4, hx123_5, ((HB.out.cell (World.block_lt_of_cell? w _ hw124_0)).trans hw124_0), ((HB.out.cell (World.block_lt_of_cell? w _ hw124_1)).trans hw124_1), ((HB.out.cell (World.block_lt_of_cell? w _ hw124_2)).trans hw124_2), ((HB.out.cell (World.block_lt_of_cell? w _ hw125_0)).trans hw125_0), ((HB.out.cell (World.block_lt_of_cell? w _ hw125_1)).trans hw125_1), ((HB.out.cell (World.block_lt_of_cell? w _ hw125_2)).trans hw125_2), ((HB.out.cell (World.block_lt_of_cell? w _ hw125_3)).trans hw125_3), ((HB.out.cell (World.block_lt_of_cell? w _ hw125_4)).trans hw125_4), ((HB.out.cell (World.block_lt_of_cell? w _ hw125_5)).trans hw125_5), hx126_0, hx126_1, hx126_2, hx126_3, hx126_4, hx126_5, hx127_0, hx127_1, hx127_2, hx127_3, hx127_4, hx127_5, hx127_6, hx127_7, hx127_8, hx127_9, hx127_10, hx127_11, hx127_12⟩ (fun hHeld => ?_); refine with_tabW armadalaw18_BumpEdits.tab17 armadalaw18_BumpEdits.bits17 (fun HT_ HW_ => ?_)
              generalize w54.drew = w55 at HO_5 HO_7 BK101 HB HR124_2 hx123_0 hx123_1 hx123_2 hx123_3 hx123_4 hx123_5 hx124_0 hx124_1 hx124_2 hx125_0 hx125_1 hx125_2 hx125_3 hx125_4 hx125_5 hx126_0 hx126_1 hx126_2 hx126_3 hx126_4 hx126_5 hx127_0 hx127_1 hx127_10 hx127_11 hx127_12 hx127_2 hx127_3 hx127_4 hx127_5 hx127_6 hx127_7 hx127_8 hx127_9 hHeld ⊢
              refine pure_ (i := 0) (N := some 102) (v := ?_) (a' := ?_) #[tt, ff, ff, ff, ff, ff, ff, ff, ff, ff, ff, ff, ff, ff, ff, ff, ff, ff, ff, ff, ff, ff, ff, ff, ff, ff, ff, ff, ff, ff, ff, ff, ff, ff, ff] rfl rfl (any_of HT_.out (by kernel_rfl)) (fun _ _ _ h => h) (Or.inl ⟨by rfl, ?_⟩) ?_ ?_
              rotate_left
              ·
               intro w'
               go_simp
               with_reducible rfl
              rotate_left
              ·
               simp only [Act.put, List.setIfInBounds_toArray, List.set_cons_zero, List.set_cons_succ, i64_w, i32_w]
               rfl
              refine pure_ (i := 1) (N := some 103) (v := ?_) (a' := ?_) #[tt, tt, ff, ff, ff, ff, ff, ff, ff, ff, ff, ff, ff, ff, ff, ff, ff, ff, ff, ff, ff, ff, ff, ff, ff, ff, ff, ff, ff, ff, ff, ff, ff, ff, ff] rfl rfl (any_of HT_.out (by kernel_rfl)) (fun _ _ _ h => h) (Or.inl ⟨by rfl, ?_⟩) ?_ ?_
              rotate_left
              ·
               intro w'
               go_simp
               with_reducible rfl
              rotate_left
              ·
               simp only [Act.put, List.setIfInBounds_toArray, List.set_cons_zero, List.set_cons_succ, i64_w, i32_w]
               rfl
              refine pure_ (i := 2) (N := some 104) (v := ?_) (a' := ?_) #[tt, tt, tt, ff, ff, ff, ff, ff, ff, ff, ff, ff, ff, ff, ff, ff, ff, ff, ff, ff, ff, ff, ff, ff, ff, ff, ff, ff, ff, ff, ff, ff, ff, ff, ff] rfl rfl (any_of HT_.out (by kernel_rfl)) (fun _ _ _ h => h) (Or.inl ⟨by rfl, ?_⟩) ?_ ?_
              rotate_left
              ·
               intro w'
               go_simp
               with_reducible rfl
              rotate_left
              ·
               simp only [Act.put, List.setIfInBounds_toArray, List.set_cons_zero, List.set_cons_succ, i64_w, i32_w]
               rfl
              refine pure_ (i := 3) (N := some 105) (v := ?_) (a' := ?_) #[tt, tt, tt, tt, ff, ff, ff, ff, ff, ff, ff, ff, ff, ff, ff, ff, ff, ff, ff, ff, ff, ff, ff, ff, ff, ff, ff, ff, ff, ff, ff, ff, ff, ff, ff] rfl rfl (any_of HT_.out (by kernel_rfl)) (fun _ _ _ h => h) (Or.inl ⟨by rfl, ?_⟩) ?_ ?_
              rotate_left
              ·
               intro w'
               go_simp
               with_reducible rfl
              rotate_left
              ·
               simp only [Act.put, List.setIfInBounds_toArray, List.set_cons_zero, List.set_cons_succ, i64_w, i32_w]
               rfl
              refine pure_ (i := 4) (N := some 106) (v := ?_) (a' := ?_) #[tt, tt, tt, tt, tt, ff, ff, ff, ff, ff, ff, ff, ff, ff, ff, ff, ff, ff, ff, ff, ff, ff, ff, ff, ff, ff, ff, ff, ff, ff, ff, ff, ff, ff, ff] rfl rfl (any_of HT_.out (by kernel_rfl)) (fun _ _ _ h => h) (Or.inl ⟨by rfl, ?_⟩) ?_ ?_
              rotate_left
              ·
               intro w'
               go_simp
               with_reducible rfl
              rotate_left
              ·
               simp only [Act.put, List.setIfInBounds_toArray, List.set_cons_zero, List.set_cons_succ, i64_w, i32_w]
               rfl
              refine pure_ (i := 5) (N := some 107) (v := ?_) (a' := ?_) #[tt, tt, tt, tt, tt, tt, ff, ff, ff, ff, ff, ff, ff, ff, ff, ff, ff, ff, ff, ff, ff, ff, ff, ff, ff, ff, ff, ff, ff, ff, ff, ff, ff, ff, ff] rfl rfl (any_of HT_.out (by kernel_rfl)) (fun _ _ _ h => h) (Or.inl ⟨by rfl, ?_⟩) ?_ ?_
              rotate_left
              ·
               intro w'
               go_simp
               with_reducible rfl
              rotate_left
              ·
               simp only [Act.put, List.setIfInBounds_toArray, List.set_cons_zero, List.set_cons_succ, i64_w, i32_w]
               rfl
              refine pure_ (i := 6) (N := some 108) (v := ?_) (a' := ?_) #[tt, tt, tt, tt, tt, tt, tt, ff, ff, ff, ff, ff, ff, ff, ff, ff, ff, ff, ff, ff, ff, ff, ff, ff, ff, ff, ff, ff, ff, ff, ff, ff, ff, ff, ff] rfl rfl (any_of HT_.out (by kernel_rfl)) (fun _ _ _ h => h) (Or.inl ⟨by rfl, ?_⟩) ?_ ?_
              rotate_left
              ·
               intro w'
               go_simp
               with_reducible rfl
              rotate_left
              ·
               simp only [Act.put, List.setIfInBounds_toArray, List.set_cons_zero, List.set_cons_succ, i64_w, i32_w]
               rfl
              refine pure_ (i := 7) (N := some 109) (v := ?_) (a' := ?_) #[tt, tt, tt, tt, tt, tt, tt, tt, ff, ff, ff, ff, ff, ff, ff, ff, ff, ff, ff, ff, ff, ff, ff, ff, ff, ff, ff, ff, ff, ff, ff, ff, ff, ff, ff] rfl rfl (any_of HT_.out (by kernel_rfl)) (fun _ _ _ h => h) (Or.inl ⟨by rfl, ?_⟩) ?_ ?_
              rotate_left
              ·
               intro w'
               go_simp
               with_reducible rfl
              rotate_left
              ·
               simp only [Act.put, List.setIfInBounds_toArray, List.set_cons_zero, List.set_cons_succ, i64_w, i32_w]
               rfl
              refine pure_ (i := 8) (N := some 110) (v := ?_) (a' := ?_) #[tt, tt, tt, tt, tt, tt, tt, tt, tt, ff, ff, ff, ff, ff, ff, ff, ff, ff, ff, ff, ff, ff, ff, ff, ff, ff, ff, ff, ff, ff, ff, ff, ff, ff, ff] rfl rfl (any_of HT_.out (by kernel_rfl)) (fun _ _ _ h => h) (Or.inl ⟨by rfl, ?_⟩) ?_ ?_
              rotate_left
              ·
               intro w'
               go_simp
               with_reducible rfl
              rotate_left
              ·
               simp only [Act.put, List.setIfInBounds_toArray, List.set_cons_zero, List.set_cons_succ, i64_w, i32_w]
               rfl
              refine pure_ (i := 10) (N := some 112) (v := ?_) (a' := ?_) #[tt, tt, tt, tt, tt, tt, tt, tt, tt, ff, tt, ff, ff, ff, ff, ff, ff, ff, ff, ff, ff, ff, ff, ff, ff, ff, ff, ff, ff, ff, ff, ff, ff, ff, ff] rfl rfl (any_of HT_.out (by kernel_rfl)) (fun _ _ _ h => h) (Or.inl ⟨by rfl, ?_⟩) ?_ ?_
              rotate_left
              ·
               intro w'
               go_simp
               with_reducible rfl
              rotate_left
              ·
               simp only [Act.put, List.setIfInBounds_toArray, List.set_cons_zero, List.set_cons_succ, i64_w, i32_w]
               rfl
              refine pure_ (i := 12) (N := some 114) (v := ?_) (a' := ?_) #[tt, tt, tt, tt, tt, tt, tt, tt, tt, ff, tt, ff, tt, ff, ff, ff, ff, ff, ff, ff, ff, ff, ff, ff, ff, ff, ff, ff, ff, ff, ff, ff, ff, ff, ff] rfl rfl (any_of HT_.out (by kernel_rfl)) (fun _ _ _ h => h) (Or.inl ⟨by rfl, ?_⟩) ?_ ?_
              rotate_left
              ·
               intro w'
               go_simp
               with_reducible rfl
              rotate_left
              ·
               simp only [Act.put, List.setIfInBounds_toArray, List.set_cons_zero, List.set_cons_succ, i64_w, i32_w]
               rfl
              refine pure_ (i := 16) (N := some 118) (v := ?_) (a' := ?_) #[tt, tt, tt, tt, tt, tt, tt, tt, tt, ff, tt, ff, tt, ff, ff, ff, tt, ff, ff, ff, ff, ff, ff, ff, ff, ff, ff, ff, ff, ff, ff, ff, ff, ff, ff] rfl rfl (any_of HT_.out (by kernel_rfl)) (fun _ _ _ h => h) (Or.inl ⟨by rfl, ?_⟩) ?_ ?_
              rotate_left
              ·
               intro w'
               go_simp
               with_reducible rfl
              rotate_left
              ·
               simp only [Act.put, List.setIfInBounds_toArray, List.set_cons_zero, List.set_cons_succ, i64_w, i32_w]
               rfl
              refine take_ (i := 9) (N := some 111) (v := ?_) (a' := ?_) #[tt, tt, tt, tt, tt, tt, tt, tt, tt, tt, tt, ff, tt, ff, ff, ff, tt, ff, ff, ff, ff, ff, ff, ff, ff, ff, ff, ff, ff, ff, ff, ff, ff, ff, ff] rfl rfl (take_ofW HT_.out HW_.out (by kernel_rfl)) (fun _ _ _ h => h) (Or.inl ⟨by rfl, ?_⟩) hHeld ?_ ?_
              rotate_left
              ·
               rintro w' ⟨s0, s1, s2, s3, s4, s5, s6, s7, s8, s9, s10, s11, s12, s13, s14, s15, s16, s17, s18, s19, s20, s21, s22, s23, s24, s25, s26, s27, s28, s29, s30, s31, s32, s33, s34, s35, s36, s37⟩
               go_simp
               with_reducible rfl
              rotate_left
              ·
               simp only [Act.put, List.setIfInBounds_toArray, List.set_cons_zero, List.set_cons_succ, i64_w, i32_w]
               rfl
              refine take_ (i := 11) (N := some 113) (v := ?_) (a' := ?_) #[tt, tt, tt, tt, tt, tt, tt, tt, tt, tt, tt, tt, tt, ff, ff, ff, tt, ff, ff, ff, ff, ff, ff, ff, ff, ff, ff, ff, ff, ff, ff, ff, ff, ff, ff] rfl rfl (take_ofW HT_.out HW_.out (by kernel_rfl)) (fun _ _ _ h => h) (Or.inl ⟨by rfl, ?_⟩) hHeld ?_ ?_
              rotate_left
              ·
               rintro w' ⟨s0, s1, s2, s3, s4, s5, s6, s7, s8, s9, s10, s11, s12, s13, s14, s15, s16, s17, s18, s19, s20, s21, s22, s23, s24, s25, s26, s27, s28, s29, s30, s31, s32, s33, s34, s35, s36, s37⟩
               go_simp
               with_reducible rfl
              rotate_left
              ·
               simp only [Act.put, List.setIfInBounds_toArray, List.set_cons_zero, List.set_cons_succ, i64_w, i32_w]
               rfl
              refine pure_ (i := 13) (N := some 115) (v := ?_) (a' := ?_) #[tt, tt, tt, tt, tt, tt, tt, tt, tt, tt, tt, tt, tt, tt, ff, ff, tt, ff, ff, ff, ff, ff, ff, ff, ff, ff, ff, ff, ff, ff, ff, ff, ff, ff, ff] rfl rfl (any_of HT_.out (by kernel_rfl)) (fun _ _ _ h => h) (Or.inl ⟨by rfl, ?_⟩) ?_ ?_
              rotate_left
              ·
               intro w'
               go_simp
               with_reducible rfl
              rotate_left
              ·
               simp only [Act.put, List.setIfInBounds_toArray, List.set_cons_zero, List.set_cons_succ, i64_w, i32_w]
               rfl
              refine pure_ (i := 14) (N := some 116) (v := ?_) (a' := ?_) #[tt, tt, tt, tt, tt, tt, tt, tt, tt, tt, tt, tt, tt, tt, tt, ff, tt, ff, ff, ff, ff, ff, ff, ff, ff, ff, ff, ff, ff, ff, ff, ff, ff, ff, ff] rfl rfl (any_of HT_.out (by kernel_rfl)) (fun _ _ _ h => h) (Or.inl ⟨by rfl, ?_⟩) ?_ ?_
              rotate_left
              ·
               intro w'
               go_simp
               with_reducible rfl
              rotate_left
              ·
               simp only [Act.put, List.setIfInBounds_toArray, List.set_cons_zero, List.set_cons_succ, i64_w, i32_w]
               rfl
              refine take_ (i := 15) (N := some 117) (v := ?_) (a' := ?_) #[tt, tt, tt, tt, tt, tt, tt, tt, tt, tt, tt, tt, tt, tt, tt, tt, tt, ff, ff, ff, ff, ff, ff, ff, ff, ff, ff, ff, ff, ff, ff, ff, ff, ff, ff] rfl rfl (take_ofW HT_.out HW_.out (by kernel_rfl)) (fun _ _ _ h => h) (Or.inl ⟨by rfl, ?_⟩) hHeld ?_ ?_
              rotate_left
              ·
               rintro w' ⟨s0, s1, s2, s3, s4, s5, s6, s7, s8, s9, s10, s11, s12, s13, s14, s15, s16, s17, s18, s19, s20, s21, s22, s23, s24, s25, s26, s27, s28, s29, s30, s31, s32, s33, s34, s35, s36, s37⟩
               go_simp
               with_reducible rfl
              rotate_left
              ·
               simp only [Act.put, List.setIfInBounds_toArray, List.set_cons_zero, List.set_cons_succ, i64_w, i32_w]
               rfl
              refine pure_ (i := 17) (N := some 119) (v := ?_) (a' := ?_) #[tt, tt, tt, tt, tt, tt, tt, tt, tt, tt, tt, tt, tt, tt, tt, tt, tt, tt, ff, ff, ff, ff, ff, ff, ff, ff, ff, ff, ff, ff, ff, ff, ff, ff, ff] rfl rfl (any_of HT_.out (by kernel_rfl)) (fun _ _ _ h => h) (Or.inl ⟨by rfl, ?_⟩) ?_ ?_
              rotate_left
              ·
               intro w'
               go_simp
               with_reducible rfl
              rotate_left
              ·
               simp only [Act.put, List.setIfInBounds_toArray, List.set_cons_zero, List.set_cons_succ, i64_w, i32_w]
               rfl
              refine pure_ (i := 18) (N := some 120) (v := ?_) (a' := ?_) #[tt, tt, tt, tt, tt, tt, tt, tt, tt, tt, tt, tt, tt, tt, tt, tt, tt, tt, tt, ff, ff, ff, ff, ff, ff, ff, ff, ff, ff, ff, ff, ff, ff, ff, ff] rfl rfl (any_of HT_.out (by kernel_rfl)) (fun _ _ _ h => h) (Or.inl ⟨by rfl, ?_⟩) ?_ ?_
              rotate_left
              ·
               intro w'
               go_simp
               with_reducible rfl
              rotate_left
              ·
               simp only [Act.put, List.setIfInBounds_toArray, List.set_cons_zero, List.set_cons_succ, i64_w, i32_w]
               rfl
              refine take_ (i := 19) (N := some 121) (v := ?_) (a' := ?_) #[tt, tt, tt, tt, tt, tt, tt, tt, tt, tt, tt, tt, tt, tt, tt, tt, tt, tt, tt, tt, ff, ff, ff, ff, ff, ff, ff, ff, ff, ff, ff, ff, ff, ff, ff] rfl rfl (take_ofW HT_.out HW_.out (by kernel_rfl)) (fun _ _ _ h => h) (Or.inl ⟨by rfl, ?_⟩) hHeld ?_ ?_
              rotate_left
              ·
               rintro w' ⟨s0, s1, s2, s3, s4, s5, s6, s7, s8, s9, s10, s11, s12, s13, s14, s15, s16, s17, s18, s19, s20, s21, s22, s23, s24, s25, s26, s27, s28, s29, s30, s31, s32, s33, s34, s35, s36, s37⟩
               go_simp
               with_reducible rfl
              rotate_left
              ·
               simp only [Act.put, List.setIfInBounds_toArray, List.set_cons_zero, List.set_cons_succ, i64_w, i32_w]
               rfl
              refine pure_ (i := 20) (N := some 122) (v := ?_) (a' := ?_) #[tt, tt, tt, tt, tt, tt, tt, tt, tt, tt, tt, tt, tt, tt, tt, tt, tt, tt, tt, tt, tt, ff, ff, ff, ff, ff, ff, ff, ff, ff, ff, ff, ff, ff, ff] rfl rfl (any_of HT_.out (by kernel_rfl)) (fun _ _ _ h => h) (Or.inl ⟨by rfl, ?_⟩) ?_ ?_
              rotate_left
              ·
               intro w'
               go_simp
               with_reducible rfl
              rotate_left
              ·
               simp only [Act.put, List.setIfInBounds_toArray, List.set_cons_zero, List.set_cons_succ, i64_w, i32_w]
               rfl
              refine pure_ (i := 21) (N := some 123) (v := ?_) (a' := ?_) #[tt, tt, tt, tt, tt, tt, tt, tt, tt, tt, tt, tt, tt, tt, tt, tt, tt, tt, tt, tt, tt, tt, ff, ff, ff, ff, ff, ff, ff, ff, ff, ff, ff, ff, ff] rfl rfl (any_of HT_.out (by kernel_rfl)) (fun _ _ _ h => h) (Or.inl ⟨by rfl, ?_⟩) ?_ ?_
              rotate_left
              ·
               intro w'
               go_simp
               with_reducible rfl
              rotate_left
              ·
               simp only [Act.put, List.setIfInBounds_toArray, List.set_cons_zero, List.set_cons_succ, i64_w, i32_w]
               rfl
              refine pure_ (i := 22) (N := some 124) (v := ?_) (a' := ?_) #[tt, tt, tt, tt, tt, tt, tt, tt, tt, tt, tt, tt, tt, tt, tt, tt, tt, tt, tt, tt, tt, tt, tt, ff, ff, ff, ff, ff, ff, ff, ff, ff, ff, ff, ff] rfl rfl (any_of HT_.out (by kernel_rfl)) (fun _ _ _ h => h) (Or.inl ⟨by rfl, ?_⟩) ?_ ?_
              rotate_left
              ·
               intro w'
               go_simp
               with_reducible rfl
              rotate_left
              ·
               simp only [Act.put, List.setIfInBounds_toArray, List.set_cons_zero, List.set_cons_succ, i64_w, i32_w]
               rfl
              refine pure_ (i := 23) (N := some 125) (v := ?_) (a' := ?_) #[tt, tt, tt, tt, tt, tt, tt, tt, tt, tt, tt, tt, tt, tt, tt, tt, tt, tt, tt, tt, tt, tt, tt, tt, ff, ff, ff, ff, ff, ff, ff, ff, ff, ff, ff] rfl rfl (any_of HT_.out (by kernel_rfl)) (fun _ _ _ h => h) (Or.inl ⟨by rfl, ?_⟩) ?_ ?_
              rotate_left
              ·
               intro w'
               go_simp
               with_reducible rfl
              rotate_left
              ·
               simp only [Act.put, List.setIfInBounds_toArray, List.set_cons_zero, List.set_cons_succ, i64_w, i32_w]
               rfl
              refine pure_ (i := 24) (N := some 126) (v := ?_) (a' := ?_) #[tt, tt, tt, tt, tt, tt, tt, tt, tt, tt, tt, tt, tt, tt, tt, tt, tt, tt, tt, tt, tt, tt, tt, tt, tt, ff, ff, ff, ff, ff, ff, ff, ff, ff, ff] rfl rfl (any_of HT_.out (by kernel_rfl)) (fun _ _ _ h => h) (Or.inl ⟨by rfl, ?_⟩) ?_ ?_
              rotate_left
              ·
               intro w'
               go_simp
               with_reducible rfl
              rotate_left
              ·
               simp only [Act.put, List.setIfInBounds_toArray, List.set_cons_zero, List.set_cons_succ, i64_w, i32_w]
               rfl
              refine pure_ (i := 25) (N := some 127) (v := ?_) (a' := ?_) #[tt, tt, tt, tt, tt, tt, tt, tt, tt, tt, tt, tt, tt, tt, tt, tt, tt, tt, tt, tt, tt, tt, tt, tt, tt, tt, ff, ff, ff, ff, ff, ff, ff, ff, ff] rfl rfl (any_of HT_.out (by kernel_rfl)) (fun _ _ _ h => h) (Or.inl ⟨by rfl, ?_⟩) ?_ ?_
              rotate_left
              ·
               intro w'
               go_simp
               with_reducible rfl
              rotate_left
              ·
               simp only [Act.put, List.setIfInBounds_toArray, List.set_cons_zero, List.set_cons_succ, i64_w, i32_w]
               rfl
              refine pure_ (i := 26) (N := some 128) (v := ?_) (a' := ?_) #[tt, tt, tt, tt, tt, tt, tt, tt, tt, tt, tt, tt, tt, tt, tt, tt, tt, tt, tt, tt, tt, tt, tt, tt, tt, tt, tt, ff, ff, ff, ff, ff, ff, ff, ff] rfl rfl (any_of HT_.out (by kernel_rfl)) (fun _ _ _ h => h) (Or.inl ⟨by rfl, ?_⟩) ?_ ?_
              rotate_left
              ·
               intro w'
               go_simp
               with_reducible rfl
              rotate_left
              ·
               simp only [Act.put, List.setIfInBounds_toArray, List.set_cons_zero, List.set_cons_succ, i64_w, i32_w]
               rfl
              refine pure_ (i := 28) (N := some 130) (v := ?_) (a' := ?_) #[tt, tt, tt, tt, tt, tt, tt, tt, tt, tt, tt, tt, tt, tt, tt, tt, tt, tt, tt, tt, tt, tt, tt, tt, tt, tt, tt, ff, tt, ff, ff, ff, ff, ff, ff] rfl rfl (any_of HT_.out (by kernel_rfl)) (fun _ _ _ h => h) (Or.inl ⟨by rfl, ?_⟩) ?_ ?_
              rotate_left
              ·
               intro w'
               go_simp
               with_reducible rfl
              rotate_left
              ·
               simp only [Act.put, List.setIfInBounds_toArray, List.set_cons_zero, List.set_cons_succ, i64_w, i32_w]
               rfl
              refine pure_ (i := 29) (N := some 131) (v := ?_) (a' := ?_) #[tt, tt, tt, tt, tt, tt, tt, tt, tt, tt, tt, tt, tt, tt, tt, tt, tt, tt, tt, tt, tt, tt, tt, tt, tt, tt, tt, ff, tt, tt, ff, ff, ff, ff, ff] rfl rfl (any_of HT_.out (by kernel_rfl)) (fun _ _ _ h => h) (Or.inl ⟨by rfl, ?_⟩) ?_ ?_
              rotate_left
              ·
               intro w'
               go_simp
               with_reducible rfl
              rotate_left
              ·
               simp only [Act.put, List.setIfInBounds_toArray, List.set_cons_zero, List.set_cons_succ, i64_w, i32_w]
               rfl
              refine pure_ (i := 30) (N := some 132) (v := ?_) (a' := ?_) #[tt, tt, tt, tt, tt, tt, tt, tt, tt, tt, tt, tt, tt, tt, tt, tt, tt, tt, tt, tt, tt, tt, tt, tt, tt, tt, tt, ff, tt, tt, tt, ff, ff, ff, ff] rfl rfl (any_of HT_.out (by kernel_rfl)) (fun _ _ _ h => h) (Or.inl ⟨by rfl, ?_⟩) ?_ ?_
              rotate_left
              ·
               intro w'
               go_simp
               with_reducible rfl
              rotate_left
              ·
               simp only [Act.put, List.setIfInBounds_toArray, List.set_cons_zero, List.set_cons_succ, i64_w, i32_w]
               rfl
              refine pure_ (i := 31) (N := some 133) (v := ?_) (a' := ?_) #[tt, tt, tt, tt, tt, tt, tt, tt, tt, tt, tt, tt, tt, tt, tt, tt, tt, tt, tt, tt, tt, tt, tt, tt, tt, tt, tt, ff, tt, tt, tt, tt, ff, ff, ff] rfl rfl (any_of HT_.out (by kernel_rfl)) (fun _ _ _ h => h) (Or.inl ⟨by rfl, ?_⟩) ?_ ?_
              rotate_left
              ·
               intro w'
               go_simp
               with_reducible rfl
              rotate_left
              ·
               simp only [Act.put, List.setIfInBounds_toArray, List.set_cons_zero, List.set_cons_succ, i64_w, i32_w]
               rfl
              refine take_ (i := 27) (N := some 129) (v := ?_) (a' := ?_) #[tt, tt, tt, tt, tt, tt, tt, tt, tt, tt, tt, tt, tt, tt, tt, tt, tt, tt, tt, tt, tt, tt, tt, tt, tt, tt, tt, tt, tt, tt, tt, tt, ff, ff, ff] rfl rfl (take_ofW HT_.out HW_.out (by kernel_rfl)) (fun _ _ _ h => h) (Or.inl ⟨by rfl, ?_⟩) hHeld ?_ ?_
              rotate_left
              ·
               rintro w' ⟨s0, s1, s2, s3, s4, s5, s6, s7, s8, s9, s10, s11, s12, s13, s14, s15, s16, s17, s18, s19, s20, s21, s22, s23, s24, s25, s26, s27, s28, s29, s30, s31, s32, s33, s34, s35, s36, s37⟩
               go_simp
               with_reducible rfl
              rotate_left
              ·
               simp only [Act.put, List.setIfInBounds_toArray, List.set_cons_zero, List.set_cons_succ, i64_w, i32_w]
               rfl
              refine take_ (i := 32) (N := some 134) (v := ?_) (a' := ?_) #[tt, tt, tt, tt, tt, tt, tt, tt, tt, tt, tt, tt, tt, tt, tt, tt, tt, tt, tt, tt, tt, tt, tt, tt, tt, tt, tt, tt, tt, tt, tt, tt, tt, ff, ff] rfl rfl (take_ofW HT_.out HW_.out (by kernel_rfl)) (fun _ _ _ h => h) (Or.inl ⟨by rfl, ?_⟩) hHeld ?_ ?_
              rotate_left
              ·
               rintro w' ⟨s0, s1, s2, s3, s4, s5, s6, s7, s8, s9, s10, s11, s12, s13, s14, s15, s16, s17, s18, s19, s20, s21, s22, s23, s24, s25, s26, s27, s28, s29, s30, s31, s32, s33, s34, s35, s36, s37⟩
               go_simp
               with_reducible rfl
              rotate_left
              ·
               simp only [Act.put, List.setIfInBounds_toArray, List.set_cons_zero, List.set_cons_succ, i64_w, i32_w]
               rfl
              refine pure_ (i := 33) (N := some 135) (v := ?_) (a' := ?_) #[tt, tt, tt, tt, tt, tt, tt, tt, tt, tt, tt, tt, tt, tt, tt, tt, tt, tt, tt, tt, tt, tt, tt, tt, tt, tt, tt, tt, tt, tt, tt, tt, tt, tt, ff] rfl rfl (any_of HT_.out (by kernel_rfl)) (fun _ _ _ h => h) (Or.inl ⟨by rfl, ?_⟩) ?_ ?_
              rotate_left
              ·
               intro w'
               go_simp
               with_reducible rfl
              rotate_left
              ·
               simp only [Act.put, List.setIfInBounds_toArray, List.set_cons_zero, List.set_cons_succ, i64_w, i32_w]
               rfl
              refine pure_ (i := 34) (N := some 136) (v := ?_) (a' := ?_) #[tt, tt, tt, tt, tt, tt, tt, tt, tt, tt, tt, tt, tt, tt, tt, tt, tt, tt, tt, tt, tt, tt, tt, tt, tt, tt, tt, tt, tt, tt, tt, tt, tt, tt, tt] rfl rfl (any_of HT_.out (by kernel_rfl)) (fun _ _ _ h => h) (Or.inl ⟨by rfl, ?_⟩) ?_ ?_
              rotate_left
              ·
               intro w'
               go_simp
               with_reducible rfl
              rotate_left
              ·
               simp only [Act.put, List.setIfInBounds_toArray, List.set_cons_zero, List.set_cons_succ, i64_w, i32_w]
               rfl
              refine done_ (done_of HT_.out (by kernel_rfl)) ?_
              try go_wp2
              go_roundg kj33
              case measure => have := HJ2.out; have := HK2.out; have := HK3.out; have := HJ33.out; omega
              case rel => exact ⟨(wrap64 (x8_3 + 1)), (wrap64 (x10_3 + 1)), xR, xR, H', ⟨by have := HJ2.out; have := HK2.out; have := HK3.out; have := HJ33.out; omega⟩, ⟨by (with_reducible repeat (first | apply Kd.R_alloc | apply Kd.R_drewN | apply Kd.R_drew)); exact HO_5.out⟩, ⟨by (with_reducible repeat (first | apply Kd.R_alloc | apply Kd.R_drewN | apply Kd.R_drew)); exact HO_7.out⟩, ⟨by (with_reducible repeat (first | refine blk_drewN ?_ _ | refine blk_drew ?_ | refine blk_alloc ?_ _)); exact BK101.out⟩, ⟨xB⟩⟩
             rw [if_neg c52] at H
             have c52b0 := beq_eq_false_iff_ne.mpr c52
             have c52b1 := bne_iff_ne.mpr c52
             exact absurd ((Option.some.inj H).trans HTRU_.out) (by decide)
            rw [if_neg c48] at H
            have c48b0 := beq_eq_false_iff_ne.mpr c48
            have c48b1 := bne_iff_ne.mpr c48
            have H' := Aside0.mk H
            clear H
            try go_wp2
            have n0_ := Aside0.mk (Kd.R_drew HO_5.out)
            have n1_ := Aside0.mk (Kd.R_drew HO_7.out)
            have n2_ := Aside0.mk (blk_drew BK101.out)
            have n3_ := Aside0.mk (below_drew1 HB.out)
            clear HO_5
            clear HO_7
            clear BK101
            clear HB
            have HO_5 := n0_
            have HO_7 := n1_
            have BK101 := n2_
            have HB := n3_
            clear n0_ n1_ n2_ n3_
            have p119 : 0 ≤ (x10_3 : Int) := xD
            have q119 : x10_3 < (t107.length : Int) := xD
            obtain ⟨ad119, e119, hx119_0, hx119_1, hx119_2, hx119_3, hx119_4, hx119_5, hx119_6, hx119_7, hx119_8, hx119_9, hx119_10, hx119_11, hx119_12⟩ := at_T30 (Kd.R_reads' HO_5.out).2.2 x10_3 p119 q119
            cases e119
            replace p119 := eq_true p119
            replace q119 := eq_true q119
            have p120 : 0 ≤ (((rd_T30 t107 x10_3).f0) : Int) := xD
            have q120 : ((rd_T30 t107 x10_3).f0) < (l0_0.length : Int) := xD
            obtain ⟨ad120, A120_2, c120_2, e120, hx120_0, hx120_1, hx120_2, hl120_2, hi120_2⟩ := at_T63 HR0_0.out ((rd_T30 t107 x10_3).f0) p120 q120
            have hw120_2 := hx120_2
            have hw120_1 := hx120_1
            have hw120_0 := hx120_0
            obtain rfl : ad115 = ad120 := (by injection e120)
            replace hx120_0 := (HB.out.cell (World.block_lt_of_cell? w _ hx120_0)).trans hx120_0
            replace hx120_1 := (HB.out.cell (World.block_lt_of_cell? w _ hx120_1)).trans hx120_1
            replace hx120_2 := (HB.out.cell (World.block_lt_of_cell? w _ hx120_2)).trans hx120_2
            have HR120_2 := Aside0.mk hi120_2
            have HC120_2 := Aside0.mk hl120_2
            clear hi120_2 hl120_2
            replace p120 := eq_true p120
            replace q120 := eq_true q120
            have p121 : 0 ≤ (a1 : Int) := xD
            have q121 : a1 < (l0_0.length : Int) := xD
            obtain ⟨ad121, A121_2, c121_2, e121, hx121_0, hx121_1, hx121_2, hl121_2, hi121_2⟩ := at_T63 HR0_0.out a1 p121 q121
            have hw121_2 := hx121_2
            have hw121_1 := hx121_1
            have hw121_0 := hx121_0
            obtain rfl : ad115 = ad121 := (by injection e121)
            replace hx121_0 := (HB.out.cell (World.block_lt_of_cell? w _ hx121_0)).trans hx121_0
            replace hx121_1 := (HB.out.cell (World.block_lt_of_cell? w _ hx121_1)).trans hx121_1
            replace hx121_2 := (HB.out.cell (World.block_lt_of_cell? w _ hx121_2)).trans hx121_2
            have HR121_2 := Aside0.mk hi121_2
            have HC121_2 := Aside0.mk hl121_2
            clear hi121_2 hl121_2
            replace p121 := eq_true p121
            replace q121 := eq_true q121
            have p122 : 0 ≤ (x9_2 : Int) := xD
            have q122 : x9_2 < (((rd_T63 l0_0 a1).f2).length : Int) := xD
            obtain ⟨ad122, e122, hx122_0, hx122_1, hx122_2, hx122_3, hx122_4, hx122_5⟩ := at_T69 HR121_2.out x9_2 p122 q122
            have hw122_5 := hx122_5
            have hw122_4 := hx122_4
            have hw122_3 := hx122_3
            have hw122_2 := hx122_2
            have hw122_1 := hx122_1
            have hw122_0 := hx122_0
            cases e122
            replace hx122_0 := (HB.out.cell (World.block_lt_of_cell? w _ hx122_0)).trans hx122_0
            replace hx122_1 := (HB.out.cell (World.block_lt_of_cell? w _ hx122_1)).trans hx122_1
            replace hx122_2 := (HB.out.cell (World.block_lt_of_cell? w _ hx122_2)).trans hx122_2
            replace hx122_3 := (HB.out.cell (World.block_lt_of_cell? w _ hx122_3)).trans hx122_3
            replace hx122_4 := (HB.out.cell (World.block_lt_of_cell? w _ hx122_4)).trans hx122_4
            replace hx122_5 := (HB.out.cell (World.block_lt_of_cell? w _ hx122_5)).trans hx122_5
            replace p122 := eq_true p122
            replace q122 := eq_true q122
            refine start_ (n := 21) (S := fun w' => w'.cell? ⟨gb101, 0, none⟩ = some (.slice (some ad115) l0_0.length c0_0) ∧ w'.cell? ⟨gb101, 1, none⟩ = some (.slice A0_1 l0_1.length c0_1) ∧ w'.cell? ⟨gb101, 2, none⟩ = some (.slice A0_2 l0_2.length c0_2) ∧ w'.cell? ⟨gb101, 3, none⟩ = some (.slice A0_3 l0_3.length c0_3) ∧ w'.cell? (ad119.add ((x10_3).toNat * 13)) = some (.int .i64 ((rd_T30 t107 x10_3).f0)) ∧ w'.cell? ⟨(ad119.add ((x10_3).toNat * 13)).block, (ad119.add ((x10_3).toNat * 13)).off + 1, none⟩ = some (.bool ((rd_T30 t107 x10_3).f1)) ∧ w'.cell? ⟨(ad119.add ((x10_3).toNat * 13)).block, (ad119.add ((x10_3).toNat * 13)).off + 2, none⟩ = some (.int .i64 ((rd_T30 t107 x10_3).f2.f0)) ∧ w'.cell? ⟨(ad119.add ((x10_3).toNat * 13)).block, (ad119.add ((x10_3).toNat * 13)).off + 3, none⟩ = some (.int .i64 ((rd_T30 t107 x10_3).f2.f1)) ∧ w'.cell? ⟨(ad119.add ((x10_3).toNat * 13)).block, (ad119.add ((x10_3).toNat * 13)).off + 4, none⟩ = some (.int .i64 ((rd_T30 t107 x10_3).f2.f2)) ∧ w'.cell? ⟨(ad119.add ((x10_3).toNat * 13)).block, (ad119.add ((x10_3).toNat * 13)).off + 5, none⟩ = some (.string ((rd_T30 t107 x10_3).f2.f3)) ∧ w'.cell? ⟨(ad119.add ((x10_3).toNat * 13)).block, (ad119.add ((x10_3).toNat * 13)).off + 6, none⟩ = some (.string ((rd_T30 t107 x10_3).f2.f4)) ∧ w'.cell? ⟨(ad119.add ((x10_3).toNat * 13)).block, (ad119.add ((x10_3).toNat * 13)).off + 7, none⟩ = some (.int .i64 ((rd_T30 t107 x10_3).f3.f0)) ∧ w'.cell? ⟨(ad119.add ((x10_3).toNat * 13)).block, (ad119.add ((x10_3).toNat * 13)).off + 8, none⟩ = some (.int .i64 ((rd_T30 t107 x10_3).f3.f1)) ∧ w'.cell? ⟨(ad119.add ((x10_3).toNat * 13)).block, (ad119.add ((x10_3).toNat * 13)).off + 9, none⟩ = some (.int .i64 ((rd_T30 t107 x10_3).f3.f2)) ∧ w'.cell? ⟨(ad119.add ((x10_3).toNat * 13)).block, (ad119.add ((x10_3).toNat * 13)).off + 10, none⟩ = some (.string ((rd_T30 t107 x10_3).f3.f3)) ∧ w'.cell? ⟨(ad119.add ((x10_3).toNat * 13)).block, (ad119.add ((x10_3).toNat * 13)).off + 11, none⟩ = some (.string ((rd_T30 t107 x10_3).f3.f4)) ∧ w'.cell? ⟨(ad119.add ((x10_3).toNat * 13)).block, (ad119.add ((x10_3).toNat * 13)).off + 12, none⟩ = some (.int .i64 ((rd_T30 t107 x10_3).f4)) ∧ w'.cell? (ad115.add ((((rd_T30 t107 x10_3).f0)).toNat * 3)) = some (.string ((rd_T63 l0_0 ((rd_T30 t107 x10_3).f0)).f0)) ∧ w'.cell? ⟨(ad115.add ((((rd_T30 t107 x10_3).f0)).toNat * 3)).block, (ad115.add ((((rd_T30 t107 x10_3).f0)).toNat * 3)).off + 1, none⟩ = some (.string ((rd_T63 l0_0 ((rd_T30 t107 x10_3).f0)).f1)) ∧ w'.cell? ⟨(ad115.add ((((rd_T30 t107 x10_3).f0)).toNat * 3)).block, (ad115.add ((((rd_T30 t107 x10_3).f0)).toNat * 3)).off + 2, none⟩ = some (.slice A120_2 ((rd_T63 l0_0 ((rd_T30 t107 x10_3).f0)).f2).length c120_2) ∧ w'.cell? (ad115.add ((a1).toNat * 3)) = some (.string ((rd_T63 l0_0 a1).f0)) ∧ w'.cell? ⟨(ad115.add ((a1).toNat * 3)).block, (ad115.add ((a1).toNat * 3)).off + 1, none⟩ = some (.string ((rd_T63 l0_0 a1).f1)) ∧ w'.cell? ⟨(ad115.add ((a1).toNat * 3)).block, (ad115.add ((a1).toNat * 3)).off + 2, none⟩ = some (.slice (some ad122) ((rd_T63 l0_0 a1).f2).length c121_2) ∧ w'.cell? (ad122.add ((x9_2).toNat * 6)) = some (.string ((rd_T69 ((rd_T63 l0_0 a1).f2) x9_2).f0)) ∧ w'.cell? ⟨(ad122.add ((x9_2).toNat * 6)).block, (ad122.add ((x9_2).toNat * 6)).off + 1, none⟩ = some (.int .i64 ((rd_T69 ((rd_T63 l0_0 a1).f2) x9_2).f1.f0)) ∧ w'.cell? ⟨(ad122.add ((x9_2).toNat * 6)).block, (ad122.add ((x9_2).toNat * 6)).off + 2, none⟩ = some (.int .i64 ((rd_T69 ((rd_T63 l0_0 a1).f2) x9_2).f1.f1)) ∧ w'.cell? ⟨(ad122.add ((x9_2).toNat * 6)).block, (ad122.add ((x9_2).toNat * 6)).off + 3, none⟩ = some (.int .i64 ((rd_T69 ((rd_T63 l0_0 a1).f2) x9_2).f1.f2)) ∧ w'.cell? ⟨(ad122.add ((x9_2).toNat * 6)).block, (ad122.add ((x9_2).toNat * 6)).off + 4, none⟩ = some (.string ((rd_T69 ((rd_T63 l0_0 a1).f2) x9_2).f1.f3)) ∧ w'.cell? ⟨(ad122.add ((x9_2).toNat * 6)).block, (ad122.add ((x9_2).toNat * 6)).off + 5, none⟩ = some (.string ((rd_T69 ((rd_T63 l0_0 a1).f2) x9_2).f1.f4))) (ds := []) #[ff, ff, ff, ff, ff, ff, ff, ff, ff, ff, ff, ff, ff, ff, ff, ff, ff, ff, ff, ff, ff] (by kernel_rfl) rfl rfl ⟨(blk_cell BK101.out 0).trans rfl, (blk_cell BK101.out 1).trans rfl, (blk_cell BK101.out 2).trans rfl, (blk_cell BK101.out 3).trans rfl, hx119_0, hx119_1, hx119_2, hx119_3, hx119_4, hx119_5, hx119_6, hx119_7, hx119_8, hx119_9, hx119_10, hx119_11, hx119_12, ((HB.out.cell (World.block_lt_of_cell? w _ hw120_0)).trans hw120_0), ((HB.out.cell (World.block_lt_of_cell? w _ hw120_1)).trans hw120_1), ((HB.out.cell (World.block_lt_of_cell? w _ hw120_2)).trans hw120_2), ((HB.out.cell (World.block_lt_of_cell? w _ hw121_0)).trans hw121_0), ((HB.out.cell (World.block_lt_of_cell? w _ hw121_1)).trans hw121_1), ((HB.out.cell (World.block_lt_of_cell? w _ hw121_2)).trans hw121_2), ((HB.out.cell (World.block_lt_of_cell? w _ hw122_0)).trans hw122_0), ((HB.out.cell (World.block_lt_of_cell? w _ hw122_1)).trans hw122_1), ((HB.out.cell (World.block_lt_of_cell? w _ hw122_2)).trans hw122_2), ((HB.out.cell (World.block_lt_of_cell? w _ hw122_3)).trans hw122_3), ((HB.out.cell (World.block_lt_of_cell? w _ hw122_4)).trans hw122_4), ((HB.out.cell (World.block_lt_of_cell? w _ hw122_5)).trans hw122_5)⟩ (fun hHeld => ?_); refine with_tabW armadalaw18_BumpEdits.tab16 armadalaw18_BumpEdits.bits16 (fun HT_ HW_ => ?_)
            generalize wc.drew = w57 at HO_5 HO_7 BK101 HB HR120_2 HR121_2 hx119_0 hx119_1 hx119_10 hx119_11 hx119_12 hx119_2 hx119_3 hx119_4 hx119_5 hx119_6 hx119_7 hx119_8 hx119_9 hx120_0 hx120_1 hx120_2 hx121_0 hx121_1 hx121_2 hx122_0 hx122_1 hx122_2 hx122_3 hx122_4 hx122_5 hHeld ⊢
            refine pure_ (i := 0) (N := some 81) (v := ?_) (a' := ?_) #[tt, ff, ff, ff, ff, ff, ff, ff, ff, ff, ff, ff, ff, ff, ff, ff, ff, ff, ff, ff, ff] rfl rfl (any_of HT_.out (by kernel_rfl)) (fun _ _ _ h => h) (Or.inl ⟨by rfl, ?_⟩) ?_ ?_
            rotate_left
            ·
             intro w'
             go_simp
             with_reducible rfl
            rotate_left
            ·
             simp only [Act.put, List.setIfInBounds_toArray, List.set_cons_zero, List.set_cons_succ, i64_w, i32_w]
             rfl
            refine pure_ (i := 2) (N := some 83) (v := ?_) (a' := ?_) #[tt, ff, tt, ff, ff, ff, ff, ff, ff, ff, ff, ff, ff, ff, ff, ff, ff, ff, ff, ff, ff] rfl rfl (any_of HT_.out (by kernel_rfl)) (fun _ _ _ h => h) (Or.inl ⟨by rfl, ?_⟩) ?_ ?_
            rotate_left
            ·
             intro w'
             go_simp
             with_reducible rfl
            rotate_left
            ·
             simp only [Act.put, List.setIfInBounds_toArray, List.set_cons_zero, List.set_cons_succ, i64_w, i32_w]
             rfl
            refine pure_ (i := 3) (N := some 84) (v := ?_) (a' := ?_) #[tt, ff, tt, tt, ff, ff, ff, ff, ff, ff, ff, ff, ff, ff, ff, ff, ff, ff, ff, ff, ff] rfl rfl (any_of HT_.out (by kernel_rfl)) (fun _ _ _ h => h) (Or.inl ⟨by rfl, ?_⟩) ?_ ?_
            rotate_left
            ·
             intro w'
             go_simp
             with_reducible rfl
            rotate_left
            ·
             simp only [Act.put, List.setIfInBounds_toArray, List.set_cons_zero, List.set_cons_succ, i64_w, i32_w]
             rfl
            refine pure_ (i := 4) (N := some 85) (v := ?_) (a' := ?_) #[tt, ff, tt, tt, tt, ff, ff, ff, ff, ff, ff, ff, ff, ff, ff, ff, ff, ff, ff, ff, ff] rfl rfl (any_of HT_.out (by kernel_rfl)) (fun _ _ _ h => h) (Or.inl ⟨by rfl, ?_⟩) ?_ ?_
            rotate_left
            ·
             intro w'
             go_simp
             with_reducible rfl
            rotate_left
            ·
             simp only [Act.put, List.setIfInBounds_toArray, List.set_cons_zero, List.set_cons_succ, i64_w, i32_w]
             rfl
            refine pure_ (i := 5) (N := some 86) (v := ?_) (a' := ?_) #[tt, ff, tt, tt, tt, tt, ff, ff, ff, ff, ff, ff, ff, ff, ff, ff, ff, ff, ff, ff, ff] rfl rfl (any_of HT_.out (by kernel_rfl)) (fun _ _ _ h => h) (Or.inl ⟨by rfl, ?_⟩) ?_ ?_
            rotate_left
            ·
             intro w'
             go_simp
             with_reducible rfl
            rotate_left
            ·
             simp only [Act.put, List.setIfInBounds_toArray, List.set_cons_zero, List.set_cons_succ, i64_w, i32_w]
             rfl
            refine pure_ (i := 10) (N := some 91) (v := ?_) (a' := ?_) #[tt, ff, tt, tt, tt, tt, ff, ff, ff, ff, tt, ff, ff, ff, ff, ff, ff, ff, ff, ff, ff] rfl rfl (any_of HT_.out (by kernel_rfl)) (fun _ _ _ h => h) (Or.inl ⟨by rfl, ?_⟩) ?_ ?_
            rotate_left
            ·
             intro w'
             go_simp
             with_reducible rfl
            rotate_left
            ·
             simp only [Act.put, List.setIfInBounds_toArray, List.set_cons_zero, List.set_cons_succ, i64_w, i32_w]
             rfl
            refine pure_ (i := 12) (N := some 93) (v := ?_) (a' := ?_) #[tt, ff, tt, tt, tt, tt, ff, ff, ff, ff, tt, ff, tt, ff, ff, ff, ff, ff, ff, ff, ff] rfl rfl (any_of HT_.out (by kernel_rfl)) (fun _ _ _ h => h) (Or.inl ⟨by rfl, ?_⟩) ?_ ?_
            rotate_left
            ·
             intro w'
             go_simp
             with_reducible rfl
            rotate_left
            ·
             simp only [Act.put, List.setIfInBounds_toArray, List.set_cons_zero, List.set_cons_succ, i64_w, i32_w]
             rfl
            refine pure_ (i := 16) (N := some 97) (v := ?_) (a' := ?_) #[tt, ff, tt, tt, tt, tt, ff, ff, ff, ff, tt, ff, tt, ff, ff, ff, tt, ff, ff, ff, ff] rfl rfl (any_of HT_.out (by kernel_rfl)) (fun _ _ _ h => h) (Or.inl ⟨by rfl, ?_⟩) ?_ ?_
            rotate_left
            ·
             intro w'
             go_simp
             with_reducible rfl
            rotate_left
            ·
             simp only [Act.put, List.setIfInBounds_toArray, List.set_cons_zero, List.set_cons_succ, i64_w, i32_w]
             rfl
            refine take_ (i := 1) (N := some 82) (v := ?_) (a' := ?_) #[tt, tt, tt, tt, tt, tt, ff, ff, ff, ff, tt, ff, tt, ff, ff, ff, tt, ff, ff, ff, ff] rfl rfl (take_ofW HT_.out HW_.out (by kernel_rfl)) (fun _ _ _ h => h) (Or.inl ⟨by rfl, ?_⟩) hHeld ?_ ?_
            rotate_left
            ·
             rintro w' ⟨s0, s1, s2, s3, s4, s5, s6, s7, s8, s9, s10, s11, s12, s13, s14, s15, s16, s17, s18, s19, s20, s21, s22, s23, s24, s25, s26, s27, s28⟩
             go_simp
             with_reducible rfl
            rotate_left
            ·
             simp only [Act.put, List.setIfInBounds_toArray, List.set_cons_zero, List.set_cons_succ, i64_w, i32_w]
             rfl
            refine take_ (i := 6) (N := some 87) (v := ?_) (a' := ?_) #[tt, tt, tt, tt, tt, tt, tt, ff, ff, ff, tt, ff, tt, ff, ff, ff, tt, ff, ff, ff, ff] rfl rfl (take_ofW HT_.out HW_.out (by kernel_rfl)) (fun _ _ _ h => h) (Or.inl ⟨by rfl, ?_⟩) hHeld ?_ ?_
            rotate_left
            ·
             rintro w' ⟨s0, s1, s2, s3, s4, s5, s6, s7, s8, s9, s10, s11, s12, s13, s14, s15, s16, s17, s18, s19, s20, s21, s22, s23, s24, s25, s26, s27, s28⟩
             go_simp
             with_reducible rfl
            rotate_left
            ·
             simp only [Act.put, List.setIfInBounds_toArray, List.set_cons_zero, List.set_cons_succ, i64_w, i32_w]
             rfl
            refine pure_ (i := 7) (N := some 88) (v := ?_) (a' := ?_) #[tt, tt, tt, tt, tt, tt, tt, tt, ff, ff, tt, ff, tt, ff, ff, ff, tt, ff, ff, ff, ff] rfl rfl (any_of HT_.out (by kernel_rfl)) (fun _ _ _ h => h) (Or.inl ⟨by rfl, ?_⟩) ?_ ?_
            rotate_left
            ·
             intro w'
             go_simp
             with_reducible rfl
            rotate_left
            ·
             simp only [Act.put, List.setIfInBounds_toArray, List.set_cons_zero, List.set_cons_succ, i64_w, i32_w]
             rfl
            refine pure_ (i := 8) (N := some 89) (v := ?_) (a' := ?_) #[tt, tt, tt, tt, tt, tt, tt, tt, tt, ff, tt, ff, tt, ff, ff, ff, tt, ff, ff, ff, ff] rfl rfl (any_of HT_.out (by kernel_rfl)) (fun _ _ _ h => h) (Or.inl ⟨by rfl, ?_⟩) ?_ ?_
            rotate_left
            ·
             intro w'
             go_simp
             with_reducible rfl
            rotate_left
            ·
             simp only [Act.put, List.setIfInBounds_toArray, List.set_cons_zero, List.set_cons_succ, i64_w, i32_w]
             rfl
            refine take_ (i := 9) (N := some 90) (v := ?_) (a' := ?_) #[tt, tt, tt, tt, tt, tt, tt, tt, tt, tt, tt, ff, tt, ff, ff, ff, tt, ff, ff, ff, ff] rfl rfl (take_ofW HT_.out HW_.out (by kernel_rfl)) (fun _ _ _ h => h) (Or.inl ⟨by rfl, ?_⟩) hHeld ?_ ?_
            rotate_left
            ·
             rintro w' ⟨s0, s1, s2, s3, s4, s5, s6, s7, s8, s9, s10, s11, s12, s13, s14, s15, s16, s17, s18, s19, s20, s21, s22, s23, s24, s25, s26, s27, s28⟩
             go_simp
             with_reducible rfl
            rotate_left
            ·
             simp only [Act.put, List.setIfInBounds_toArray, List.set_cons_zero, List.set_cons_succ, i64_w, i32_w]
             rfl
            refine take_ (i := 11) (N := some 92) (v := ?_) (a' := ?_) #[tt, tt, tt, tt, tt, tt, tt, tt, tt, tt, tt, tt, tt, ff, ff, ff, tt, ff, ff, ff, ff] rfl rfl (take_ofW HT_.out HW_.out (by kernel_rfl)) (fun _ _ _ h => h) (Or.inl ⟨by rfl, ?_⟩) hHeld ?_ ?_
            rotate_left
            ·
             rintro w' ⟨s0, s1, s2, s3, s4, s5, s6, s7, s8, s9, s10, s11, s12, s13, s14, s15, s16, s17, s18, s19, s20, s21, s22, s23, s24, s25, s26, s27, s28⟩
             go_simp
             with_reducible rfl
            rotate_left
            ·
             simp only [Act.put, List.setIfInBounds_toArray, List.set_cons_zero, List.set_cons_succ, i64_w, i32_w]
             rfl
            refine pure_ (i := 13) (N := some 94) (v := ?_) (a' := ?_) #[tt, tt, tt, tt, tt, tt, tt, tt, tt, tt, tt, tt, tt, tt, ff, ff, tt, ff, ff, ff, ff] rfl rfl (any_of HT_.out (by kernel_rfl)) (fun _ _ _ h => h) (Or.inl ⟨by rfl, ?_⟩) ?_ ?_
            rotate_left
            ·
             intro w'
             go_simp
             with_reducible rfl
            rotate_left
            ·
             simp only [Act.put, List.setIfInBounds_toArray, List.set_cons_zero, List.set_cons_succ, i64_w, i32_w]
             rfl
            refine pure_ (i := 14) (N := some 95) (v := ?_) (a' := ?_) #[tt, tt, tt, tt, tt, tt, tt, tt, tt, tt, tt, tt, tt, tt, tt, ff, tt, ff, ff, ff, ff] rfl rfl (any_of HT_.out (by kernel_rfl)) (fun _ _ _ h => h) (Or.inl ⟨by rfl, ?_⟩) ?_ ?_
            rotate_left
            ·
             intro w'
             go_simp
             with_reducible rfl
            rotate_left
            ·
             simp only [Act.put, List.setIfInBounds_toArray, List.set_cons_zero, List.set_cons_succ, i64_w, i32_w]
             rfl
            refine take_ (i := 15) (N := some 96) (v := ?_) (a' := ?_) #[tt, tt, tt, tt, tt, tt, tt, tt, tt, tt, tt, tt, tt, tt, tt, tt, tt, ff, ff, ff, ff] rfl rfl (take_ofW HT_.out HW_.out (by kernel_rfl)) (fun _ _ _ h => h) (Or.inl ⟨by rfl, ?_⟩) hHeld ?_ ?_
            rotate_left
            ·
             rintro w' ⟨s0, s1, s2, s3, s4, s5, s6, s7, s8, s9, s10, s11, s12, s13, s14, s15, s16, s17, s18, s19, s20, s21, s22, s23, s24, s25, s26, s27, s28⟩
             go_simp
             with_reducible rfl
            rotate_left
            ·
             simp only [Act.put, List.setIfInBounds_toArray, List.set_cons_zero, List.set_cons_succ, i64_w, i32_w]
             rfl
            refine pure_ (i := 17) (N := some 98) (v := ?_) (a' := ?_) #[tt, tt, tt, tt, tt, tt, tt, tt, tt, tt, tt, tt, tt, tt, tt, tt, tt, tt, ff, ff, ff] rfl rfl (any_of HT_.out (by kernel_rfl)) (fun _ _ _ h => h) (Or.inl ⟨by rfl, ?_⟩) ?_ ?_
            rotate_left
            ·
             intro w'
             go_simp
             with_reducible rfl
            rotate_left
            ·
             simp only [Act.put, List.setIfInBounds_toArray, List.set_cons_zero, List.set_cons_succ, i64_w, i32_w]
             rfl
            refine pure_ (i := 18) (N := some 99) (v := ?_) (a' := ?_) #[tt, tt, tt, tt, tt, tt, tt, tt, tt, tt, tt, tt, tt, tt, tt, tt, tt, tt, tt, ff, ff] rfl rfl (any_of HT_.out (by kernel_rfl)) (fun _ _ _ h => h) (Or.inl ⟨by rfl, ?_⟩) ?_ ?_
            rotate_left
            ·
             intro w'
             go_simp
             with_reducible rfl
            rotate_left
            ·
             simp only [Act.put, List.setIfInBounds_toArray, List.set_cons_zero, List.set_cons_succ, i64_w, i32_w]
             rfl
            refine take_ (i := 19) (N := some 100) (v := ?_) (a' := ?_) #[tt, tt, tt, tt, tt, tt, tt, tt, tt, tt, tt, tt, tt, tt, tt, tt, tt, tt, tt, tt, ff] rfl rfl (take_ofW HT_.out HW_.out (by kernel_rfl)) (fun _ _ _ h => h) (Or.inl ⟨by rfl, ?_⟩) hHeld ?_ ?_
            rotate_left
            ·
             rintro w' ⟨s0, s1, s2, s3, s4, s5, s6, s7, s8, s9, s10, s11, s12, s13, s14, s15, s16, s17, s18, s19, s20, s21, s22, s23, s24, s25, s26, s27, s28⟩
             go_simp
             with_reducible rfl
            rotate_left
            ·
             simp only [Act.put, List.setIfInBounds_toArray, List.set_cons_zero, List.set_cons_succ, i64_w, i32_w]
             rfl
            refine pure_ (i := 20) (N := some 101) (v := ?_) (a' := ?_) #[tt, tt, tt, tt, tt, tt, tt, tt, tt, tt, tt, tt, tt, tt, tt, tt, tt, tt, tt, tt, tt] rfl rfl (any_of HT_.out (by kernel_rfl)) (fun _ _ _ h => h) (Or.inl ⟨by rfl, ?_⟩) ?_ ?_
            rotate_left
            ·
             intro w'
             go_simp
             with_reducible rfl
            rotate_left
            ·
             simp only [Act.put, List.setIfInBounds_toArray, List.set_cons_zero, List.set_cons_succ, i64_w, i32_w]
             rfl
            refine done_ (done_of HT_.out (by kernel_rfl)) ?_
            try go_wp2
            go_roundg kj33
            case measure => have := HJ2.out; have := HK2.out; have := HK3.out; have := HJ33.out; omega
            case rel => exact ⟨(x8_3), (wrap64 (x10_3 + 1)), xR, xR, H', ⟨by have := HJ2.out; have := HK2.out; have := HK3.out; have := HJ33.out; omega⟩, ⟨by (with_reducible repeat (first | apply Kd.R_alloc | apply Kd.R_drewN | apply Kd.R_drew)); exact HO_5.out⟩, ⟨by (with_reducible repeat (first | apply Kd.R_alloc | apply Kd.R_drewN | apply Kd.R_drew)); exact HO_7.out⟩, ⟨by (with_reducible repeat (first | refine blk_drewN ?_ _ | refine blk_drew ?_ | refine blk_alloc ?_ _)); exact BK101.out⟩, ⟨xB⟩⟩
         rw [if_neg c33] at H
         have c33b0 := decide_eq_false c33
         clear c33
         have H' := Aside0.mk H
         clear H
         go_wp2
         go_roundg k3
         case measure => have := HJ2.out; have := HK2.out; have := HK3.out; omega
         case rel => exact ⟨(x8_3), (wrap64 (x9_2 + 1)), xR, xR, H', ⟨by have := HJ2.out; have := HK2.out; have := HK3.out; omega⟩, ⟨by (with_reducible repeat (first | apply Kd.R_alloc | apply Kd.R_drewN | apply Kd.R_drew)); exact HO_5.out⟩, ⟨by (with_reducible repeat (first | apply Kd.R_alloc | apply Kd.R_drewN | apply Kd.R_drew)); exact HO_7.out⟩, ⟨by (with_reducible repeat (first | refine blk_drewN ?_ _ | refine blk_drew ?_ | refine blk_alloc ?_ _)); exact BK101.out⟩, ⟨xB⟩⟩
      rw [if_neg c31] at H
      have c31b0 := decide_eq_false c31
      clear c31
      by_cases c58 : x8_2 = (t112.length : Int)
      ·
       rw [if_pos c58] at H
       have c58b0 := beq_iff_eq.mpr c58
       have c58b1 := bne_eq_false_iff_eq.mpr c58
       clear c58
       replace H := xb H
       obtain ⟨t116, A59, H⟩ := H
       obtain rfl := Option.some.inj H
       have hcz60_0 : wr.cell? ⟨gb101, 0, none⟩ = some (.slice A0_0 l0_0.length c0_0) := (blk_cell BK101.out 0).trans rfl
       have hcz60_1 : wr.cell? ⟨gb101, 1, none⟩ = some (.slice A0_1 l0_1.length c0_1) := (blk_cell BK101.out 1).trans rfl
       have hcz60_2 : wr.cell? ⟨gb101, 2, none⟩ = some (.slice A0_2 l0_2.length c0_2) := (blk_cell BK101.out 2).trans rfl
       have hcz60_3 : wr.cell? ⟨gb101, 3, none⟩ = some (.slice A0_3 l0_3.length c0_3) := (blk_cell BK101.out 3).trans rfl
       have hfz60_0 := blk_frozen BK101.out 0
       have hfz60_1 := blk_frozen BK101.out 1
       have hfz60_2 := blk_frozen BK101.out 2
       have hfz60_3 := blk_frozen BK101.out 3
       have p115 : 0 ≤ (a1 : Int) := xD
       have q115 : a1 < (l0_0.length : Int) := xD
       obtain ⟨ad115, A115_2, c115_2, e115, hx115_0, hx115_1, hx115_2, hl115_2, hi115_2⟩ := at_T63 HR0_0.out a1 p115 q115
       cases e115
       replace hx115_0 := (HB.out.cell (World.block_lt_of_cell? w _ hx115_0)).trans hx115_0
       replace hx115_1 := (HB.out.cell (World.block_lt_of_cell? w _ hx115_1)).trans hx115_1
       replace hx115_2 := (HB.out.cell (World.block_lt_of_cell? w _ hx115_2)).trans hx115_2
       have HR115_2 := Aside0.mk hi115_2
       have HC115_2 := Aside0.mk hl115_2
       clear hi115_2 hl115_2
       replace p115 := eq_true p115
       replace q115 := eq_true q115
       obtain ⟨Ao61, co61, eo61⟩ := Kd.R_slice HO_7.out
       subst eo61
       go_wp2_with (first | (go_at_call 9; (with_reducible refine (armadalaw18_live.calls  t116 _ ?side1 ?side2 A59.out).mono ?_); (case side1 => exact GW.below HGW.out xB); (case side2 => exact HTRU_.out); rintro e w62 ⟨rfl, hb⟩; replace HO_5 := Aside0.mk (Kd.R_below (by (with_reducible repeat (first | apply Kd.R_alloc | apply Kd.R_drewN | apply Kd.R_drew)); exact HO_5.out) hb); replace HO_7 := Aside0.mk (Kd.R_below (by (with_reducible repeat (first | apply Kd.R_alloc | apply Kd.R_drewN | apply Kd.R_drew)); exact HO_7.out) hb); replace BK101 := Aside0.mk (blk_below (g := gb101) (o := .cells #[.slice (some ad115) l0_0.length c0_0, .slice A0_1 l0_1.length c0_1, .slice A0_2 l0_2.length c0_2, .slice A0_3 l0_3.length c0_3] 42 (0, 0)) xK hb); replace HB := Aside0.mk (below_step xB hb); (try clear hb); (try clear hb2); (try clear hk); (try clear hi)))
       go_ret
       exact ⟨by first | rfl | (simp [errW_none, errW_some] <;> rfl) | (simp [*, errW_none, errW_some] <;> rfl) | (simp [isEmpty_bne]; done), xB⟩
      rw [if_neg c58] at H
      have c58b0 := beq_eq_false_iff_ne.mpr c58
      have c58b1 := bne_iff_ne.mpr c58
      exact absurd ((Option.some.inj H).trans HTRU_.out) (by decide)
   rw [if_neg c20] at H
   have c20b0 := beq_eq_false_iff_ne.mpr c20
   have c20b1 := bne_iff_ne.mpr c20
   replace H := xb H
   obtain ⟨t111, A63, H⟩ := H
   obtain rfl := Option.some.inj H
   try go_wp2
   have n0_ := Aside0.mk (blk_drew BK101.out)
   have n1_ := Aside0.mk (below_drew1 HB.out)
   clear BK101
   clear HB
   have BK101 := n0_
   have HB := n1_
   clear n0_ n1_
   refine start_ (n := 15) (S := fun w' => w'.cell? ⟨gb101, 0, none⟩ = some (.slice A0_0 l0_0.length c0_0) ∧ w'.cell? ⟨gb101, 1, none⟩ = some (.slice A0_1 l0_1.length c0_1) ∧ w'.cell? ⟨gb101, 2, none⟩ = some (.slice A0_2 l0_2.length c0_2) ∧ w'.cell? ⟨gb101, 3, none⟩ = some (.slice A0_3 l0_3.length c0_3)) (ds := []) #[ff, ff, ff, ff, ff, ff, ff, ff, ff, ff, ff, ff, ff, ff, ff] (by kernel_rfl) rfl rfl ⟨(blk_cell BK101.out 0).trans rfl, (blk_cell BK101.out 1).trans rfl, (blk_cell BK101.out 2).trans rfl, (blk_cell BK101.out 3).trans rfl⟩ (fun hHeld => ?_); refine with_tabW armadalaw18_BumpEdits.tab3 armadalaw18_BumpEdits.bits3 (fun HT_ HW_ => ?_)
   generalize wc.drew = w64 at BK101 HB hHeld ⊢
   refine pure_ (i := 0) (N := some 27) (v := ?_) (a' := ?_) #[tt, ff, ff, ff, ff, ff, ff, ff, ff, ff, ff, ff, ff, ff, ff] rfl rfl (any_of HT_.out (by kernel_rfl)) (fun _ _ _ h => h) (Or.inl ⟨by rfl, ?_⟩) ?_ ?_
   rotate_left
   ·
    intro w'
    go_simp
    with_reducible rfl
   rotate_left
   ·
    simp only [Act.put, List.setIfInBounds_toArray, List.set_cons_zero, List.set_cons_succ, i64_w, i32_w]
    rfl
   refine pure_ (i := 2) (N := some 29) (v := ?_) (a' := ?_) #[tt, ff, tt, ff, ff, ff, ff, ff, ff, ff, ff, ff, ff, ff, ff] rfl rfl (any_of HT_.out (by kernel_rfl)) (fun _ _ _ h => h) (Or.inl ⟨by rfl, ?_⟩) ?_ ?_
   rotate_left
   ·
    intro w'
    go_simp
    with_reducible rfl
   rotate_left
   ·
    simp only [Act.put, List.setIfInBounds_toArray, List.set_cons_zero, List.set_cons_succ, i64_w, i32_w]
    rfl
   refine pure_ (i := 4) (N := some 31) (v := ?_) (a' := ?_) #[tt, ff, tt, ff, tt, ff, ff, ff, ff, ff, ff, ff, ff, ff, ff] rfl rfl (any_of HT_.out (by kernel_rfl)) (fun _ _ _ h => h) (Or.inl ⟨by rfl, ?_⟩) ?_ ?_
   rotate_left
   ·
    intro w'
    go_simp
    with_reducible rfl
   rotate_left
   ·
    simp only [Act.put, List.setIfInBounds_toArray, List.set_cons_zero, List.set_cons_succ, i64_w, i32_w]
    rfl
   refine pure_ (i := 6) (N := some 33) (v := ?_) (a' := ?_) #[tt, ff, tt, ff, tt, ff, tt, ff, ff, ff, ff, ff, ff, ff, ff] rfl rfl (any_of HT_.out (by kernel_rfl)) (fun _ _ _ h => h) (Or.inl ⟨by rfl, ?_⟩) ?_ ?_
   rotate_left
   ·
    intro w'
    go_simp
    with_reducible rfl
   rotate_left
   ·
    simp only [Act.put, List.setIfInBounds_toArray, List.set_cons_zero, List.set_cons_succ, i64_w, i32_w]
    rfl
   refine take_ (i := 1) (N := some 28) (v := ?_) (a' := ?_) #[tt, tt, tt, ff, tt, ff, tt, ff, ff, ff, ff, ff, ff, ff, ff] rfl rfl (take_ofW HT_.out HW_.out (by kernel_rfl)) (fun _ _ _ h => h) (Or.inl ⟨by rfl, ?_⟩) hHeld ?_ ?_
   rotate_left
   ·
    rintro w' ⟨s0, s1, s2, s3⟩
    go_simp
    with_reducible rfl
   rotate_left
   ·
    simp only [Act.put, List.setIfInBounds_toArray, List.set_cons_zero, List.set_cons_succ, i64_w, i32_w]
    rfl
   refine take_ (i := 3) (N := some 30) (v := ?_) (a' := ?_) #[tt, tt, tt, tt, tt, ff, tt, ff, ff, ff, ff, ff, ff, ff, ff] rfl rfl (take_ofW HT_.out HW_.out (by kernel_rfl)) (fun _ _ _ h => h) (Or.inl ⟨by rfl, ?_⟩) hHeld ?_ ?_
   rotate_left
   ·
    rintro w' ⟨s0, s1, s2, s3⟩
    go_simp
    with_reducible rfl
   rotate_left
   ·
    simp only [Act.put, List.setIfInBounds_toArray, List.set_cons_zero, List.set_cons_succ, i64_w, i32_w]
    rfl
   refine take_ (i := 5) (N := some 32) (v := ?_) (a' := ?_) #[tt, tt, tt, tt, tt, tt, tt, ff, ff, ff, ff, ff, ff, ff, ff] rfl rfl (take_ofW HT_.out HW_.out (by kernel_rfl)) (fun _ _ _ h => h) (Or.inl ⟨by rfl, ?_⟩) hHeld ?_ ?_
   rotate_left
   ·
    rintro w' ⟨s0, s1, s2, s3⟩
    go_simp
    with_reducible rfl
   rotate_left
   ·
    simp only [Act.put, List.setIfInBounds_toArray, List.set_cons_zero, List.set_cons_succ, i64_w, i32_w]
    rfl
   refine take_ (i := 7) (N := some 34) (v := ?_) (a' := ?_) #[tt, tt, tt, tt, tt, tt, tt, tt, ff, ff, ff, ff, ff, ff, ff] rfl rfl (take_ofW HT_.out HW_.out (by kernel_rfl)) (fun _ _ _ h => h) (Or.inl ⟨by rfl, ?_⟩) hHeld ?_ ?_
   rotate_left
   ·
    rintro w' ⟨s0, s1, s2, s3⟩
    go_simp
    with_reducible rfl
   rotate_left
   ·
    simp only [Act.put, List.setIfInBounds_toArray, List.set_cons_zero, List.set_cons_succ, i64_w, i32_w]
    rfl
   refine one_ (i := 8) (N := some 35) #[tt, tt, tt, tt, tt, tt, tt, tt, tt, ff, ff, ff, ff, ff, ff] rfl rfl (one_of HT_.out (by kernel_rfl)) (by decide) (fun K hK => ?_)
   refine goes_ Tryz.func16 (by kernel_rfl) rfl #[.slice A0_3 l0_3.length c0_3] (by rfl) rfl rfl xS ?_
   with_reducible refine (armadalaw18_own.calls kj2 _ _ l0_3 t104 _ ?side1 ?side2 A18.out).mono ?_
   (case side1 => repeat (first | exact (Kd.C_below HR0_3.out HB.out) | (with_reducible refine Kd.C_alloc ?_ _) | (with_reducible refine Kd.C_drewN ?_ _) | (with_reducible refine Kd.C_drew ?_)))
   (case side2 => exact HC0_3.out)
   rintro e w65 ⟨v105, rfl, ho0, hb⟩
   refine ⟨_, rfl, ?_⟩
   have n0_ := Aside0.mk (Kd.R_lower ho0 (below_size xB))
   have n1_ := Aside0.mk (blk_below (g := gb101) (o := .cells #[.slice A0_0 l0_0.length c0_0, .slice A0_1 l0_1.length c0_1, .slice A0_2 l0_2.length c0_2, .slice A0_3 l0_3.length c0_3] 42 (0, 0)) xK hb)
   have n2_ := Aside0.mk (below_step xB hb)
   clear BK101
   clear HB
   have HO106 := n0_
   have BK101 := n1_
   have HB := n2_
   clear n0_ n1_ n2_
   (try clear hb)
   (try clear hb2)
   (try clear hk)
   (try clear hi)
   (try clear ho0)
   obtain ⟨Ao66, co66, eo66⟩ := Kd.R_slice HO106.out
   (first | subst eo66 | (injection eo66 with f1_ f2_ f3_; have f4_ := f1_.symm; have f5_ := f3_.symm; clear f1_ f2_ f3_; subst f4_; subst f5_))
   refine hK.out _ _ ⟨(blk_cell BK101.out 0).trans rfl, (blk_cell BK101.out 1).trans rfl, (blk_cell BK101.out 2).trans rfl, (blk_cell BK101.out 3).trans rfl⟩ (fun hHeld => ?_)
   clear hK K
   refine norm_ (a' := ?_) ?_ ?_
   rotate_left
   ·
    show Act.put _ (some 35) _ = _
    simp only [Act.put, List.setIfInBounds_toArray, List.set_cons_zero, List.set_cons_succ, i64_w, i32_w]
    rfl
   refine one_ (i := 9) (N := some 36) #[tt, tt, tt, tt, tt, tt, tt, tt, tt, tt, ff, ff, ff, ff, ff] rfl rfl (one_of HT_.out (by kernel_rfl)) (by decide) (fun K hK => ?_)
   refine goes_ Tryz.func15 (by kernel_rfl) rfl #[.slice A0_0 l0_0.length c0_0, .slice A0_1 l0_1.length c0_1, .slice A0_2 l0_2.length c0_2, .slice Ao66 t104.length co66] (by rfl) rfl rfl xS ?_
   with_reducible refine (bump_Releases.calls _ _ l0_0 _ _ l0_1 _ _ l0_2 _ _ t104 t107 t108 _ ?side1 ?side2 ?side3 ?side4 ?side5 ?side6 ?side7 ?side8 ?side9 A19.out).mono ?_
   (case side1 => repeat (first | exact (Kd.C_below HR0_0.out HB.out) | (with_reducible refine Kd.C_alloc ?_ _) | (with_reducible refine Kd.C_drewN ?_ _) | (with_reducible refine Kd.C_drew ?_)))
   (case side2 => exact HC0_0.out)
   (case side3 => repeat (first | exact (Kd.C_below HR0_1.out HB.out) | (with_reducible refine Kd.C_alloc ?_ _) | (with_reducible refine Kd.C_drewN ?_ _) | (with_reducible refine Kd.C_drew ?_)))
   (case side4 => exact HC0_1.out)
   (case side5 => repeat (first | exact (Kd.C_below HR0_2.out HB.out) | (with_reducible refine Kd.C_alloc ?_ _) | (with_reducible refine Kd.C_drewN ?_ _) | (with_reducible refine Kd.C_drew ?_)))
   (case side6 => exact HC0_2.out)
   (case side7 => repeat (first | exact (Kd.R_reads' HO106.out).2.2 | (with_reducible refine Kd.C_alloc ?_ _) | (with_reducible refine Kd.C_drewN ?_ _) | (with_reducible refine Kd.C_drew ?_)))
   (case side8 => exact (Kd.R_reads' HO106.out).2.1)
   (case side9 => exact GW.below HGW.out xB)
   rintro e w67 ⟨v109, rfl, ho0, hb⟩
   refine ⟨_, rfl, ?_⟩
   have n0_ := Aside0.mk (Kd.R_below (by (with_reducible repeat (first | apply Kd.R_alloc | apply Kd.R_drewN | apply Kd.R_drew)); exact HO106.out) hb)
   have n1_ := Aside0.mk (Kd.R_lower ho0 (below_size xB))
   have n2_ := Aside0.mk (blk_below (g := gb101) (o := .cells #[.slice A0_0 l0_0.length c0_0, .slice A0_1 l0_1.length c0_1, .slice A0_2 l0_2.length c0_2, .slice A0_3 l0_3.length c0_3] 42 (0, 0)) xK hb)
   have n3_ := Aside0.mk (below_step xB hb)
   clear HO106
   clear BK101
   clear HB
   have HO106 := n0_
   have HO110 := n1_
   have BK101 := n2_
   have HB := n3_
   clear n0_ n1_ n2_ n3_
   (try clear hb)
   (try clear hb2)
   (try clear hk)
   (try clear hi)
   (try clear ho0)
   refine hK.out _ _ ⟨(blk_cell BK101.out 0).trans rfl, (blk_cell BK101.out 1).trans rfl, (blk_cell BK101.out 2).trans rfl, (blk_cell BK101.out 3).trans rfl⟩ (fun hHeld => ?_)
   clear hK K
   refine norm_ (a' := ?_) ?_ ?_
   rotate_left
   ·
    show Act.put _ (some 36) _ = _
    simp only [Act.put, List.setIfInBounds_toArray, List.set_cons_zero, List.set_cons_succ, i64_w, i32_w]
    rfl
   refine pure_ (i := 10) (N := some 26) (v := ?_) (a' := ?_) #[tt, tt, tt, tt, tt, tt, tt, tt, tt, tt, tt, ff, ff, ff, ff] rfl rfl (any_of HT_.out (by kernel_rfl)) (fun _ _ _ h => h) (Or.inl ⟨by rfl, ?_⟩) ?_ ?_
   rotate_left
   ·
    intro w'
    go_simp
    with_reducible rfl
   rotate_left
   ·
    simp only [Act.put, List.setIfInBounds_toArray, List.set_cons_zero, List.set_cons_succ, i64_w, i32_w]
    rfl
   refine pure_ (i := 11) (N := some 37) (v := ?_) (a' := ?_) #[tt, tt, tt, tt, tt, tt, tt, tt, tt, tt, tt, tt, ff, ff, ff] rfl rfl (any_of HT_.out (by kernel_rfl)) (fun _ _ _ h => h) (Or.inl ⟨by rfl, ?_⟩) ?_ ?_
   rotate_left
   ·
    intro w'
    go_simp
    with_reducible rfl
   rotate_left
   ·
    simp only [Act.put, List.setIfInBounds_toArray, List.set_cons_zero, List.set_cons_succ, i64_w, i32_w]
    rfl
   refine pure_ (i := 12) (N := some 38) (v := ?_) (a' := ?_) #[tt, tt, tt, tt, tt, tt, tt, tt, tt, tt, tt, tt, tt, ff, ff] rfl rfl (any_of HT_.out (by kernel_rfl)) (fun _ _ _ h => h) (Or.inl ⟨by rfl, ?_⟩) ?_ ?_
   rotate_left
   ·
    intro w'
    go_simp
    with_reducible rfl
   rotate_left
   ·
    simp only [Act.put, List.setIfInBounds_toArray, List.set_cons_zero, List.set_cons_succ, i64_w, i32_w]
    rfl
   refine pure_ (i := 13) (N := some 5) (v := ?_) (a' := ?_) #[tt, tt, tt, tt, tt, tt, tt, tt, tt, tt, tt, tt, tt, tt, ff] rfl rfl (any_of HT_.out (by kernel_rfl)) (fun _ _ _ h => h) (Or.inl ⟨by rfl, ?_⟩) ?_ ?_
   rotate_left
   ·
    intro w'
    go_simp
    with_reducible rfl
   rotate_left
   ·
    simp only [Act.put, List.setIfInBounds_toArray, List.set_cons_zero, List.set_cons_succ, i64_w, i32_w]
    rfl
   refine pure_ (i := 14) (N := some 6) (v := ?_) (a' := ?_) #[tt, tt, tt, tt, tt, tt, tt, tt, tt, tt, tt, tt, tt, tt, tt] rfl rfl (any_of HT_.out (by kernel_rfl)) (fun _ _ _ h => h) (Or.inl ⟨by rfl, ?_⟩) ?_ ?_
   rotate_left
   ·
    intro w'
    go_simp
    with_reducible rfl
   rotate_left
   ·
    simp only [Act.put, List.setIfInBounds_toArray, List.set_cons_zero, List.set_cons_succ, i64_w, i32_w]
    rfl
   refine done_ (done_of HT_.out (by kernel_rfl)) ?_
   try go_wp2_with (first | ((with_reducible refine gate_callee (f := 9) rfl ?_); refine goesL_ (some 41) rfl rfl Tryz.func9 (by kernel_rfl) rfl #[] rfl xS ?_; (with_reducible refine (armadalaw18_live.calls  t111 _ ?side1 ?side2 A63.out).mono ?_); (case side1 => exact GW.below HGW.out xB); (case side2 => exact HTRU_.out); rintro e w68 ⟨rfl, hb⟩; refine ⟨_, rfl, ?_⟩; replace HO106 := Aside0.mk (Kd.R_below (by (with_reducible repeat (first | apply Kd.R_alloc | apply Kd.R_drewN | apply Kd.R_drew)); exact HO106.out) hb); replace HO110 := Aside0.mk (Kd.R_below (by (with_reducible repeat (first | apply Kd.R_alloc | apply Kd.R_drewN | apply Kd.R_drew)); exact HO110.out) hb); replace BK101 := Aside0.mk (blk_below (g := gb101) (o := .cells #[.slice A0_0 l0_0.length c0_0, .slice A0_1 l0_1.length c0_1, .slice A0_2 l0_2.length c0_2, .slice A0_3 l0_3.length c0_3] 42 (0, 0)) xK hb); replace HB := Aside0.mk (below_step xB hb); (try clear hb); (try clear hb2); (try clear hk); (try clear hi)))
   go_ret
   exact ⟨by first | rfl | (simp [errW_none, errW_some] <;> rfl) | (simp [*, errW_none, errW_some] <;> rfl) | (simp [isEmpty_bne]; done), xB⟩
end Go.Proofs.YtillhaipemengaaGreatDoor.LEdits
end

section
namespace Go.Proofs.YtillhaipemengaaGreatDoor.LEdits
open Go.RowKit Go.Proofs.YtillhaipemengaaGreatDoor Go.Proofs.YtillhaipemengaaGreatDoor.K0 Go.Proofs.YtillhaipemengaaGreatDoor.RD Go.Proofs.YtillhaipemengaaGreatDoor.RS Go.Proofs.YtillhaipemengaaGreatDoorW.PrintWords Go.Proofs.YtillhaipemengaaGreatDoorW.PrintLast Go.Proofs.YtillhaipemengaaGreatDoorW.PrintMore
attribute [local go_sem] max2_int min2_int max_two min_two max_three min_three max_four min_four
set_option linter.unusedVariables false
set_option linter.unusedSimpArgs false
end Go.Proofs.YtillhaipemengaaGreatDoor.LEdits
end

section
namespace Go.Proofs.YtillhaipemengaaGreatDoor
open Go Go.RowKit Go.Proofs Go.Proofs.YtillhaipemengaaGreatDoorW.PrintWords Go.Proofs.YtillhaipemengaaGreatDoor.K0 Go.Proofs.YtillhaipemengaaGreatDoor.RS Go.Proofs.YtillhaipemengaaGreatDoor.LEdits Go.Proofs.YtillhaipemengaaGreatDoor.Sm
set_option linter.unusedVariables false
set_option linter.unusedSimpArgs false
theorem rdM_in {l : List Md} {z : Int} {m : Md} (h : l[z.toNat]? = some m) : rd_T63 l z = m := by
  unfold rd_T63
  rw [List.getD_eq_getElem?_getD, h]; rfl
theorem neVr (x y : Vr) : (!(x.f0 == y.f0) || (!(x.f1 == y.f1) || (!(x.f2 == y.f2) || (!(x.f3.toList == y.f3.toList) || (!(x.f4.toList == y.f4.toList)))))) = decide (x ≠ y) := by
  obtain ⟨b0, b1, b2, b3, b4⟩ := x
  obtain ⟨e0, e1, e2, e3, e4⟩ := y
  rw [Bool.eq_iff_iff]
  simp only [Bool.or_eq_true, Bool.not_eq_true', beq_eq_false_iff_ne, ne_eq, ba_list, decide_eq_true_eq, S26.mk.injEq]
  by_cases h0 : b0 = e0 <;> by_cases h1 : b1 = e1 <;> by_cases h2 : b2 = e2 <;> by_cases h3 : b3 = e3 <;> by_cases h4 : b4 = e4 <;> simp [*]
/-- Two releases of one path are one. -/
theorem hit_one {l : List Md} {tg : List Tg} {ch : List Int} {ws : List Wt} {rs : List Rl} (h : RelIs l tg ch ws rs) {p : ByteArray} {i j : Nat} {r s : Rl} (hr : rs[i]? = some r) (hs : rs[j]? = some s) (h1 : hit l p r = true) (h2 : hit l p s = true) : i = j := by
  have hm : ∀ {x : Rl}, hit l p x = true → 0 ≤ x.f0 ∧ ∃ m, l[x.f0.toNat]? = some m ∧ m.f1 = p := by
    intro x hx
    unfold hit at hx
    rw [Bool.and_eq_true, Bool.and_eq_true, decide_eq_true_eq, decide_eq_true_eq, decide_eq_true_eq] at hx
    obtain ⟨a, b, c⟩ := hx
    have hlt : x.f0.toNat < l.length := by omega
    refine ⟨a, _, List.getElem?_eq_getElem hlt, ?_⟩
    rw [List.getD_eq_getElem?_getD, List.getElem?_eq_getElem hlt] at c
    exact c
  obtain ⟨g1, m, g2, g3⟩ := hm h1
  obtain ⟨k1, m', k2, k3⟩ := hm h2
  have hg := (ord_ok h.ord).1
  have e1 := gcheck_place hg _ m g2
  have e2 := gcheck_place hg _ m' k2
  rw [g3] at e1
  rw [k3, e1] at e2
  have he : r.f0 = s.f0 := by omega
  have a1 : (rs.map (·.f0))[i]? = some r.f0 := by rw [List.getElem?_map, hr]; rfl
  have a2 : (rs.map (·.f0))[j]? = some r.f0 := by rw [List.getElem?_map, hs, he]; rfl
  exact (List.getElem?_inj (List.getElem?_eq_some_iff.1 a1).1 h.nodup).1 (a1.trans a2.symm)
def oneOf (l : List Md) (p : ByteArray) (rs : List Rl) : List Rq := match rs.find? (hit l p) with | some r => [⟨p, r.f3⟩] | none => []
theorem edits_l1 {l : List Md} {tg : List Tg} {ch : List Int} {ws : List Wt} {rs : List Rl} (h : RelIs l tg ch ws rs) (hrl : rs.length ≤ 1000) (d : List Rq) (hd : d.length ≤ 1000) {z : Int} (hz : 0 ≤ z) {m : Md} (hm : l[z.toNat]? = some m) (hzl : z < (l.length : Int)) (hml : m.f2.length ≤ 30) {c : List Tg} {e : List Int} {g : List WtR} {i : Nat} {q : Rq} (hq : m.f2[i]? = some q)
    (out : ∀ k : Nat, k ≤ d.length → d.drop k = editGo l rs (m.f2.drop (i + 1)) → Ev (fun x => armadalaw18_BumpEdits.l0 x z rs d (k : Int) ((i + 1 : Nat) : Int) l c e g) true) :
    ∀ (t n k : Nat), rs.length - n = t → n ≤ rs.length → k ≤ d.length → d.drop k = oneOf l q.f0 (rs.drop n) ++ editGo l rs (m.f2.drop (i + 1)) → Ev (fun x => armadalaw18_BumpEdits.l1 x z rs d (k : Int) (i : Int) (n : Int) l c e g) true := by
  have hi := (List.getElem?_eq_some_iff.1 hq).1
  have hmz : rd_T63 l z = m := rdM_in hm
  have hqz : rd_T69 m.f2 (i : Int) = q := by
    unfold rd_T69; rw [Int.toNat_natCast, List.getD_eq_getElem?_getD, hq]; rfl
  intro t
  induction t with
  | zero =>
    intro n k ht hn hk hs
    have : n = rs.length := by omega
    subst this
    rw [List.drop_eq_nil_of_le (Nat.le_refl _)] at hs
    refine Ev.step (fun x => ?_) (out k hk hs)
    simp only [armadalaw18_BumpEdits.l1]
    rw [if_neg (by omega), wrap_s (by omega)]
  | succ t ih =>
    intro n k ht hn hk hs
    obtain ⟨r, h1, h2, h3⟩ := rdL_at (l := rs) (n := n) (by omega)
    obtain ⟨p1, mr, p2, _⟩ := h.each (List.mem_of_getElem? h3)
    have hlt := (List.getElem?_eq_some_iff.1 p2).1
    have hmr : rd_T63 l r.f0 = mr := rdM_in p2
    have hj : Ev (fun x => armadalaw18_BumpEdits.j3 x z rs d (k : Int) (i : Int) (n : Int) false l c e g) true := by
      by_cases hp : mr.f1 = q.f0
      · have hh : hit l q.f0 r = true := by
          unfold hit
          rw [Bool.and_eq_true, Bool.and_eq_true, decide_eq_true_eq, decide_eq_true_eq, decide_eq_true_eq]
          exact ⟨p1, by omega, by rw [List.getD_eq_getElem?_getD, p2]; exact hp⟩
        have hn1 : oneOf l q.f0 (rs.drop (n + 1)) = [] := by
          unfold oneOf
          have : (rs.drop (n + 1)).find? (hit l q.f0) = none := by
            rw [List.find?_eq_none]
            intro s hs' hhs
            obtain ⟨j, hj⟩ := List.mem_iff_getElem?.1 hs'
            rw [List.getElem?_drop] at hj
            have := hit_one h h3 hj hh hhs
            omega
          rw [this]
        have ho : oneOf l q.f0 (rs.drop n) = [⟨q.f0, r.f3⟩] := by
          unfold oneOf
          rw [h2, List.find?_cons_of_pos hh]
        rw [ho] at hs
        have hkl : k < d.length := by
          have := congrArg List.length hs
          simp only [List.length_drop, List.length_append, List.length_cons, List.length_nil] at this
          omega
        have hdk : d[k]? = some ⟨q.f0, r.f3⟩ := by
          have := congrArg (fun w : List Rq => w[0]?) hs
          simpa only [List.getElem?_drop, Nat.add_zero, List.cons_append, List.getElem?_cons_zero] using this
        have hdz : rd_T69 d (k : Int) = ⟨q.f0, r.f3⟩ := by
          unfold rd_T69; rw [Int.toNat_natCast, List.getD_eq_getElem?_getD, hdk]; rfl
        have hs2 : d.drop (k + 1) = oneOf l q.f0 (rs.drop (n + 1)) ++ editGo l rs (m.f2.drop (i + 1)) := by
          rw [hn1, ← List.drop_drop, hs]; rfl
        refine Ev.step (fun x => ?_) (ih (n + 1) (k + 1) (by omega) (by omega) (by omega) hs2)
        simp only [armadalaw18_BumpEdits.j3]
        rw [if_neg (by simp), if_pos (by omega), if_pos (by omega), h1, if_pos p1, if_pos (by omega), if_pos hz, if_pos hzl, if_pos (by omega), hmz, if_pos (by omega), hmr, hqz, if_pos (ba_list.2 hp), if_neg (by omega), if_pos (by omega), if_pos (by omega), hdz, if_pos rfl, neVr, decide_eq_false (by simp), if_neg (by simp), wrap_s (by omega), wrap_s (by omega)]
      · have hh : hit l q.f0 r = false := by
          unfold hit
          rw [List.getD_eq_getElem?_getD, p2]
          simp only [Option.getD_some, hp, decide_false, Bool.and_false]
        have ho : oneOf l q.f0 (rs.drop n) = oneOf l q.f0 (rs.drop (n + 1)) := by
          unfold oneOf
          rw [h2, List.find?_cons_of_neg (by simp [hh])]
        rw [ho] at hs
        refine Ev.step (fun x => ?_) (ih (n + 1) k (by omega) (by omega) hk hs)
        simp only [armadalaw18_BumpEdits.j3]
        rw [if_neg (by simp), if_pos (by omega), if_pos (by omega), h1, if_pos p1, if_pos (by omega), if_pos hz, if_pos hzl, if_pos (by omega), hmz, if_pos (by omega), hmr, hqz, if_neg (fun w => hp (ba_list.1 w)), wrap_s (by omega)]
    refine Ev.step (fun x => ?_) hj
    simp only [armadalaw18_BumpEdits.l1]
    rw [if_pos (by omega), if_pos (by omega), h1, if_neg (by omega), decide_eq_false (by omega)]
theorem edits_l0 {l : List Md} {tg : List Tg} {ch : List Int} {ws : List Wt} {rs : List Rl} (h : RelIs l tg ch ws rs) (hrl : rs.length ≤ 1000) (d : List Rq) (hd : d.length ≤ 1000) {z : Int} (hz : 0 ≤ z) {m : Md} (hm : l[z.toNat]? = some m) (hzl : z < (l.length : Int)) (hml : m.f2.length ≤ 30) {c : List Tg} {e : List Int} {g : List WtR} :
    ∀ (t i k : Nat), m.f2.length - i = t → i ≤ m.f2.length → k ≤ d.length → d.drop k = editGo l rs (m.f2.drop i) → Ev (fun x => armadalaw18_BumpEdits.l0 x z rs d (k : Int) (i : Int) l c e g) true := by
  have hmz : rd_T63 l z = m := rdM_in hm
  intro t
  induction t with
  | zero =>
    intro i k ht hi hk hs
    have : i = m.f2.length := by omega
    subst this
    rw [List.drop_eq_nil_of_le (Nat.le_refl _)] at hs
    have hkd : k = d.length := by
      have := congrArg List.length hs
      rw [List.length_drop] at this
      have h2 : (editGo l rs []).length = 0 := rfl
      omega
    refine Ev.step (fun x => ?_) live18
    simp only [armadalaw18_BumpEdits.l0]
    rw [if_pos hz, if_pos hzl, hmz, if_neg (by omega), if_pos (by omega)]
  | succ t ih =>
    intro i k ht hi hk hs
    obtain ⟨q, hq⟩ : ∃ q, m.f2[i]? = some q := ⟨_, List.getElem?_eq_getElem (by omega)⟩
    have hdr : m.f2.drop i = q :: m.f2.drop (i + 1) := by
      have hil := (List.getElem?_eq_some_iff.1 hq)
      rw [List.drop_eq_getElem_cons hil.1, hil.2]
    rw [hdr] at hs
    refine Ev.step (fun x => ?_) (edits_l1 h hrl d hd hz hm hzl hml hq (fun k hk hs => ih (i + 1) k (by omega) (by omega) hk hs) _ 0 k rfl (Nat.zero_le _) hk hs)
    simp only [armadalaw18_BumpEdits.l0]
    rw [if_pos hz, if_pos hzl, hmz, if_pos (by omega)]
    rfl
theorem edits_ev (l0 : List Md) (l1 : List Tg) (l2 : List Int) (l3 : List WtR) (z : Int) (h0 : l0.length ≤ 9223372036854775807) (hs : Short l0) (h1 : l1.length ≤ 9223372036854775807) (h3 : l3.length ≤ 9223372036854775807) : Ev (fun k => armadalaw18_BumpEdits.f k l0 l1 l2 l3 z) true := by
  obtain ⟨b, hb, hB⟩ := small18 l0 l1 l2 l3 h0 hs h1 h3
  have hlive : ∀ c : Bool, c = true → Ev (fun k => armadalaw18_BumpEdits.j0 k z c l0 l1 l2 l3) true := by
    rintro _ rfl
    refine Ev.step (fun k => ?_) live18
    simp only [armadalaw18_BumpEdits.j0, if_true]
  unfold armadalaw18_BumpEdits.f
  refine Ev.bind hb ?_
  cases b with
  | false => simp only [Bool.false_eq_true, if_false]; exact hlive _ rfl
  | true =>
    simp only [if_true]
    obtain ⟨b0, bR, b1, b2, b3⟩ := hB rfl
    by_cases hz : z < 0
    · simp only [if_pos hz]; exact hlive _ rfl
    simp only [if_neg hz]
    by_cases hc : z ≥ (l0.length : Int)
    · exact hlive _ (decide_eq_true hc)
    simp only [decide_eq_false hc]
    have hw := own18 l3 (by omega)
    have hw3 : (l3.map toWt).length ≤ 20 := by rw [List.length_map]; exact b3
    generalize l3.map toWt = ws at hw hw3
    obtain ⟨m, hm⟩ : ∃ m, l0[z.toNat]? = some m := ⟨_, List.getElem?_eq_getElem (by omega)⟩
    have hml := bR m (List.mem_of_getElem? hm)
    refine Ev.step (f := fun k => (armadalaw18_own.f k l3).bind fun t104 => (bump_Releases.f l0 l1 l2 t104).bind fun bt107 => if bt107.2 = 0 then (bump_Edits.f l0 bt107.1 z).bind fun t112 => armadalaw18_BumpEdits.l0 k z bt107.1 t112 0 0 l0 l1 l2 l3 else (armadalaw18_live.f).bind fun t111 => some t111) (fun k => ?_) ?_
    · simp only [armadalaw18_BumpEdits.j0]
      rw [if_neg (by simp)]
    · refine Ev.bind hw ?_
      rw [rel18 b0 b1 (by omega) hw3]
      simp only [Option.bind_some]
      by_cases hf : (relOf l0 l1 l2 ws).2 = 0
      · have hR := rel_is (rs := (relOf l0 l1 l2 ws).1) (Prod.ext rfl hf : relOf l0 l1 l2 ws = ((relOf l0 l1 l2 ws).1, 0))
        have hlen := relOf_len l0 l1 l2 ws
        generalize (relOf l0 l1 l2 ws).1 = rs at hR hlen ⊢
        simp only [hf, if_true]
        have he : bump_Edits.f l0 rs z = some (editsOf l0 rs z) := by unfold bump_Edits.f; rw [if_pos ⟨b0, bR⟩]
        rw [he]
        simp only [Option.bind_some]
        have hd : editsOf l0 rs z = editGo l0 rs m.f2 := by
          unfold editsOf
          rw [if_pos (by omega), if_pos (by omega), List.getD_eq_getElem?_getD, hm]
          rfl
        rw [hd]
        have hdl := editGo_len l0 rs m.f2
        exact edits_l0 hR (by omega) _ (by omega) (by omega) hm (by omega) hml _ 0 0 rfl (Nat.zero_le _) (Nat.zero_le _) rfl
      · simp only [hf, if_false]
        exact live18
theorem bumpEdits_pure (l0 : List Md) (l1 : List Tg) (l2 : List Int) (l3 : List WtR) (z : Int) (h0 : l0.length ≤ 9223372036854775807) (hs : Short l0) (h1 : l1.length ≤ 9223372036854775807) (h3 : l3.length ≤ 9223372036854775807) : ∃ k, armadalaw18_BumpEdits.f k l0 l1 l2 l3 z = some true := by
  obtain ⟨K, hK⟩ := edits_ev l0 l1 l2 l3 z h0 hs h1 h3
  exact ⟨K, hK K (Nat.le_refl _)⟩
end Go.Proofs.YtillhaipemengaaGreatDoor
end

section
namespace Go.Proofs.YtillhaipemengaaGreatDoor
open Go Go.ChangeShapes Go.WideShapes Go.ChangeAt Go.RowKit Go.Joins Go.Deep Go.Proofs.YtillhaipemengaaGreatDoor.LEdits
set_option linter.unusedVariables false
set_option maxRecDepth 100000 in
theorem bumpEdits_lifted (os : Os) (started : os.Started) (H : Type) (enc : TypeId × Value → H) :
    ReturnsInHanded {} Tryz.checked os 7 .any (fun w args => (Rows.bumpEditsSpec.pre enc Tryz.prog Tryz.f7 Rows.bumpEditsRow.domain false w args ∧ laidMetH Tryz.prog Rows.bumpEditsRow.laid w) ∧ sizedMet enc Tryz.prog Tryz.f7 (OpenSpec.ofChange Rows.bumpEditsSpec) false w args)
      (Rows.bumpEditsSpec.post enc Tryz.prog Tryz.f7 false true false false) := by
  refine lifted_of (C := Tryz.checked) (tb := 4) laidOut rfl own started (by kernel_rfl) Tryz.func7 (by kernel_rfl) (by kernel_rfl) Tryz.underlying4 ?_
    (ChangeSpec.witness_shaped (enc := enc) (C := Tryz.checked) (os := os) (X := fun w _ => laidMetH Tryz.prog Rows.bumpEditsRow.laid w) false (World.laidAll Tryz.prog os Rows.bumpEditsRow.laid) #[.agg #[.slice none 0 0, .slice none 0 0, .slice none 0 0, .slice none 0 0], .int .i64 0] 8 (World.laidAll_os _ _ _)
      (World.shaped_of_ZipB (by kernel_rfl) (by kernel_rfl)) (by kernel_rfl) (by kernel_rfl) (by kernel_rfl)
      (by rw [MakeChecks.laidMetH_plain _ _ _ (by kernel_rfl)]; exact laidMet_laidAll _ (by kernel_rfl) (by kernel_rfl))) ?_
  · intro ds hd
    match ds, hd.trans (show Tryz.f7.params.size = 2 by kernel_rfl) with
    | [_, _], _ => rfl
  · intro W base args ds ps hval0 hA0 hz hsh hL
    have hval : ∀ (j : Nat) t v, Tryz.f7.params[j]? = some t → args[j]? = some v → Value.okWide Tryz.prog W .any base t v := hval0
    have hA : DataW.TrodAll enc Tryz.prog W 0 (fun _ => true) true Tryz.f7.params.toList args.toList ds ps := hA0
    rw [Tryz.params7] at hA hval
    obtain ⟨v0, v1, d0, d1, p0, p1, rfl, rfl, rfl, h0, h1⟩ := trodAll_two hA
    obtain ⟨A0_, c0_, y0_, A1_, c1_, y1_, A2_, c2_, y2_, A3_, c3_, y3_, rfl, hr0_, hc0_, hr1_, hc1_, hr2_, hc2_, hr3_, hc3_⟩ := arg_case (hval 0 42 v0 rfl rfl) h0
    obtain ⟨x1, rfl, rfl, rfl, _⟩ := open_int Tryz.underlying3 (hval 1 3 v1 rfl rfl) h1
    obtain ⟨k, hk⟩ := bumpEdits_pure y0_ y1_ y2_ y3_ x1 hr0_.2.1 (mods_short hr0_) hr1_.2.1 hr3_.2.1
    exact armadalaw18_BumpEdits.calls k A0_ c0_ y0_ A1_ c1_ y1_ A2_ c2_ y2_ A3_ c3_ y3_ x1 true W hr0_ hc0_ hr1_ hc1_ hr2_ hc2_ hr3_ hc3_ (gw_of hsh hL) rfl hk
theorem bumpEdits_holds : Rows.BumpEditsSaid :=
  OpenClaim.holds_of_wide 7 Tryz.f7 rfl rfl rfl rfl rfl rfl rfl ⟨rfl, rfl, rfl, rfl, rfl⟩ rfl rfl rfl rfl rfl (by kernel_rfl) Tryz.func7 (by kernel_rfl)
    (of_decide_eq_true (by kernel_rfl)) (by unfold Func.isWrapper; first | (rw [if_pos (by decide +kernel)]; kernel_rfl) | (rw [if_neg (by decide +kernel)]; exact ⟨rfl, rfl⟩))
    (fun os started H enc _ => bumpEdits_lifted os started H enc)
theorem bumpEdits_card : Rows.BumpEditsCardSaid :=
  Claim7.holds_tied_plain_at .later [] [.data, .data, .data, .data, .sentinel, .sentinel, .pinned] true (true, "f6bb216b3d5a21fbd52da762281c3b2ade8256e45710a715403b1dc021bf5dbc") true bumpEdits_holds (fun _ h => by cases h) (by kernel_rfl) (fun _ h => by cases h) bumpEdits_row_tie rfl ⟨rfl, rfl⟩ (by kernel_rfl) rfl
    (fun f fn hf hfn => by
      obtain rfl : f = 7 := Option.some.inj ((show Tryz.prog.funcNamed "armada/armadalaw18.BumpEdits" = some 7 by kernel_rfl).symm.trans hf) |>.symm
      obtain rfl : fn = Tryz.f7 := (Option.some.inj (Tryz.func7.symm.trans hfn)).symm
      exact ⟨by kernel_rfl, fun j t ht => by
        rw [Tryz.params7] at ht
        have hm : t ∈ [42, 3] := by simpa using Array.mem_of_getElem? ht
        have hall : ([42, 3].all fun u => !Tryz.prog.wantsStandIn u) = true := by kernel_rfl
        exact (show Tryz.prog.wantsStandIn t = false by simpa using List.all_eq_true.1 hall t hm)⟩)
    (by kernel_rfl)
#print axioms bumpEdits_card
end Go.Proofs.YtillhaipemengaaGreatDoor
end
