/- The law armadalaw18.BumpMore answers true whatever case it is handed, and what it was handed reads as it did; its tied card holds.
   Conditions: those of the row and the card alone: the listed variables of Go's library hold what the program's own text lays in them. -/
import Derived.Test.YtillhaipemengaaGreatDoorZB5
import Derived.Test.YtillhaipemengaaGreatDoorTie
import Derived.Test.YtillhaipemengaaGreatDoorCards
import Derived.ProofKit
import Derived.OpenShut
import Derived.LaidMore
import Derived.Lay
import Derived.SevenTiedAt
import Derived.Stop.Joined
import Derived.Stop.LaidErr
import Derived.Carry
import Derived.Shelf.Vars
import Derived.Handed
import Derived.JoinedOf
import Derived.Test.YtillhaipemengaaGreatDoorZB6
import Derived.Test.YtillhaipemengaaGreatDoorZB38
import Derived.Test.YtillhaipemengaaGreatDoorZB42
import Derived.Test.YtillhaipemengaaGreatDoorZB4
import Derived.Test.YtillhaipemengaaGreatDoorZB43
import Derived.Test.YtillhaipemengaaGreatDoorZB44
import Derived.Lib.SmallJoins
section
namespace Go.Proofs.YtillhaipemengaaGreatDoor
open Go Go.ChangeShapes Go.WideShapes Go.ChangeAt Go.RowKit Go.Joins Go.Deep Go.Proofs.YtillhaipemengaaGreatDoorW.PrintWords
set_option linter.unusedVariables false
theorem own : ownKnob Tryz.prog.godebug = none := by kernel_rfl
theorem laidOut : laidOutB Tryz.prog = true := by kernel_rfl
section
variable {H : Type} {enc : TypeId × Value → H} {P : Program}
theorem trodAll_carry (hl : laidOutB P = true) {W W' : World} (hb : Below W.heap.size W W') : ∀ {ts : List TypeId} {vs : List Value} {ds : List (DataW H)} {ps : List MemPlace},
    (ts.all fun t => P.readableRec t && decide (t < P.types.size)) = true → DataW.TrodAll enc P W 0 (fun _ => true) true ts vs ds ps → ∀ sp : Nat → Bool, (∀ p ∈ ps, sp p.block = true) → DataW.TrodAll enc P W' 0 sp true ts vs ds ps
  | [], [], [], _, _, h, _, _ => h
  | [], [], _ :: _, _, _, h, _, _ => h.elim
  | [], _ :: _, _, _, _, h, _, _ => h.elim
  | _ :: _, [], _, _, _, h, _, _ => h.elim
  | _ :: _, _ :: _, [], _, _, h, _, _ => h.elim
  | t :: ts, v :: vs, d :: ds, ps, hr, h, sp, hs => by
    have hlt := h.lt
    obtain ⟨p, q, h1, h2, rfl⟩ := h
    simp only [List.all_cons, Bool.and_eq_true, decide_eq_true_eq] at hr
    exact ⟨p, q, WideElems.Trod_stays hl hr.1.1 hr.1.2 h1 (fun x hx => hb.same (hlt x (by simp [hx]))) (fun x hx => hs x (by simp [hx])),
      trodAll_carry hl hb (by simpa using hr.2) h2 sp (fun x hx => hs x (by simp [hx])), rfl⟩
theorem post_true {f : Func} {s : ChangeSpec} {W W' : World} {args : Array Value} {ds : List (DataW H)} {before : List MemPlace} {tb : TypeId} (hl : laidOutB P = true) (hv : s.vars = [])
    (hW : DataW.Whole enc P f.params.toList s.vars false W args.toList ds [] before) (hr : (f.params.toList.all fun t => P.readableRec t && decide (t < P.types.size)) = true)
    (hres : f.resultTypes = #[tb]) (hbool : P.underlying tb = some .bool) (hfn : s.fn H (ds ++ []) = { results := [.lit (.bool true)], args := ds }) (hb : Below W.heap.size W W') :
    s.post enc P f false true false false W args (.bool true) W' := by
  have hlt := hW.lt
  obtain ⟨p, q, hA, hV, hpq, hz, hn⟩ := hW
  have hq : q = [] := by rw [hv] at hV; exact hV
  subst hq
  rw [List.append_nil] at hpq
  subst hpq
  refine ⟨ds, [], before, [], before, [], ⟨before, [], hA, hV, (List.append_nil _).symm, hz, hn⟩, ?_, ?_, ?_, hb.frame _, fun h => by cases h⟩
  · rw [hfn, hres]
    exact trodAll_mk1 (shut_bool hbool _)
  · rw [hfn]
    exact trodAll_carry hl hb hr hA _ (fun x hx => by simpa using hlt x hx)
  · rw [hfn, hv]
    exact rfl
theorem lifted_of {C : Checked} {os : Os} {f : FuncId} {fn : Func} {s : ChangeSpec} {conds : List PathCond} {laid : List (String × DataW Unit)} {tb : TypeId} (hl : laidOutB C.prog = true) (hv : s.vars = [])
    (own : ownKnob C.prog.godebug = none) (started : os.Started) (noInit : C.prog.inits.idxOf? f = none) (hfn : C.prog.funcs[f]? = some fn)
    (hr : (fn.params.toList.all fun t => C.prog.readableRec t && decide (t < C.prog.types.size)) = true)
    (hres : fn.resultTypes = #[tb]) (hbool : C.prog.underlying tb = some .bool)
    (hspec : ∀ ds : List (DataW H), ds.length = fn.params.size → s.fn H (ds ++ []) = { results := [.lit (.bool true)], args := ds })
    (witness : ∃ (w : World) (tape : Tape) (i : Input), w.os = os ∧ (w.forCall tape i).Shaped C.prog ∧ i.vars = [] ∧ Input.okWide C.prog (w.forCall tape i) .any w.heap.size f i ∧
      ((s.pre enc C.prog fn conds false (w.forCall tape i).memory i.args ∧ laidMetH C.prog laid (w.forCall tape i).memory) ∧ sizedMet enc C.prog fn (OpenSpec.ofChange s) false (w.forCall tape i).memory i.args) ∧
      ({} : Assume).holds C.prog (lone (Frame.enter C.prog f i.args .normal) [] (w.forCall tape i)))
    (law : ∀ (W : World) (base : Nat) (args : Array Value) (ds : List (DataW H)) (ps : List MemPlace),
      (∀ (j : Nat) t v, fn.params[j]? = some t → args[j]? = some v → Value.okWide C.prog W .any base t v) →
      DataW.TrodAll enc C.prog W 0 (fun _ => true) true fn.params.toList args.toList ds ps →
      (DataW.weightsEach C.prog fn.params.toList ds).all (· ≤ reachBytes) = true →
      W.ShapedOpen C.prog → laidMetH C.prog laid W →
      Calls C.prog f args W fun e W' => e = .returned (.bool true) ∧ Below W.heap.size W W') :
    ReturnsInHanded {} C os f .any (fun w args => (s.pre enc C.prog fn conds false w args ∧ laidMetH C.prog laid w) ∧ sizedMet enc C.prog fn (OpenSpec.ofChange s) false w args) (s.post enc C.prog fn false true false false) := by
  refine returnsInHanded_of_calls own started noInit witness ?_
  intro w tape i _ hsh _ hok hpre hholds
  obtain ⟨_, _, _, fn', hfn', _, _, _, _, hval⟩ := hok
  have e : fn' = fn := Option.some.inj (hfn'.symm.trans hfn)
  subst e
  obtain ⟨⟨⟨ds, gs, before, hw, hc⟩, hx⟩, hz⟩ := hpre
  have hgs : gs = [] := by
    obtain ⟨_, _, _, hV, _⟩ := hw
    rw [hv] at hV
    cases gs with
    | nil => rfl
    | cons _ _ => exact hV.elim
  subst hgs
  have hw' := DataW.Whole.of_heap (w' := w.forCall tape i) (by rfl) hw
  have hz' := hz.weights hw
  obtain ⟨p, q, hA, _⟩ := hw'
  have hlen : ∀ {ts : List TypeId} {vs : List Value} {ds : List (DataW H)} {ps : List MemPlace}, DataW.TrodAll enc C.prog (w.forCall tape i) 0 (fun _ => true) true ts vs ds ps → ds.length = ts.length := by
    intro ts
    induction ts with
    | nil => intro vs ds ps h; cases vs <;> cases ds <;> first | rfl | exact h.elim
    | cons t ts ih =>
      intro vs ds ps h
      cases vs <;> cases ds <;> first | exact h.elim | skip
      obtain ⟨_, _, _, h2, _⟩ := h
      simp [ih h2]
  have hz2 : (DataW.weightsEach C.prog fn'.params.toList ds).all (· ≤ reachBytes) = true := by
    have e1 : (OpenSpec.ofChange s).bare.plain.varTypes C.prog = [] := by
      show s.plain.varTypes C.prog = []
      unfold DataSpec.varTypes ChangeSpec.plain
      simp [hv]
    rw [e1, List.append_nil, List.append_nil] at hz'
    exact hz'
  refine (law (w.forCall tape i) w.heap.size i.args ds p hval hA hz2 hsh (hx.of_heap (by rfl))).mono fun e W' ⟨he, hb⟩ => ?_
  subst he
  refine ChangeSpec.post_blind (post_true hl hv (DataW.Whole.of_heap (w' := w.forCall tape i) (by rfl) hw) hr hres hbool (hspec ds ?_) hb)
  rw [hlen hA]; simp
end
theorem laid_mem {P : Program} {W : World} {x : String × DataW Unit} : ∀ {l : List (String × DataW Unit)}, laidMet P l W → x ∈ l → ∃ r, laidMet P (x :: r) W
  | [], _, h => by cases h
  | y :: l, hl, h => by
    rcases List.mem_cons.1 h with rfl | h'
    · exact ⟨l, hl⟩
    · exact laid_mem hl.tail h'
theorem iface_var {P : Program} {W : World} {n nm : String} {d : DataW Unit} {r : List (String × DataW Unit)} {g : Nat} {ti : TypeId} {ms : Array (String × TypeId)} (h : laidMet P ((n, .iface nm d) :: r) W)
    (hg : P.globalNamed n = some g) (ht : (P.globals[g]?).map (·.type) = some ti) (hi : P.underlying ti = some (.interface ms)) : ∃ tp p, W.var? P n = some #[.iface tp p] := by
  obtain ⟨ps, ⟨g0, t0, cs0, f0, p0, q0, hg0, ht0, hv0, hd0, _, _⟩, _, _⟩ := h
  obtain rfl := Option.some.inj (hg.symm.trans hg0)
  obtain rfl := Option.some.inj (ht.symm.trans ht0)
  obtain ⟨l0⟩ := cs0
  cases f0 with
  | zero => cases hd0
  | succ f0 =>
    unfold DataW.trod at hd0
    rw [hi] at hd0
    split at hd0 <;> first
      | (rename_i h1 h2; cases h1; done)
      | skip
    all_goals first
      | (cases hd0; done)
      | (rename_i u v h1 h2; simp only at h2; subst h2; exact ⟨u, v, hv0⟩)
      | skip
    all_goals (rename_i h1; cases h1)
section
variable {H : Type} {enc : TypeId × Value → H} {P : Program} {w : World} {base : Nat} {spare : Nat → Bool} {held : Bool}
end
/-- What the row lists gives the walk's world. -/
theorem gw_of {W : World} (h : W.ShapedOpen Tryz.prog) (hl : laidMetH Tryz.prog Rows.bumpMoreRow.laid W) : GW W := by
  rw [MakeChecks.laidMetH_plain _ _ _ (by kernel_rfl)] at hl
  obtain ⟨_, h1⟩ := laid_mem (x := ("internal/strconv.uint64pow10", Rows.laid_internal_strconv_uint64pow10)) hl (by repeat (first | exact List.mem_cons_self .. | apply List.mem_cons_of_mem))
  obtain ⟨_, h2⟩ := laid_mem (x := ("strconv.ErrRange", Rows.laid_strconv_ErrRange)) hl (by repeat (first | exact List.mem_cons_self .. | apply List.mem_cons_of_mem))
  obtain ⟨_, h3⟩ := laid_mem (x := ("strconv.ErrSyntax", Rows.laid_strconv_ErrSyntax)) hl (by repeat (first | exact List.mem_cons_self .. | apply List.mem_cons_of_mem))
  exact {
    maxLen := cell_of_shapedOpen_int (P := Tryz.prog) (g := 0) (t := 3) (zero := #[.int .i64 0]) h (of_decide_eq_true (by kernel_rfl)) (by kernel_rfl) rfl (by kernel_rfl) (by kernel_rfl) Tryz.underlying3
    pow10 := Lib.tabIs_of_head (k := .u64) (zs := Lib.pow10Tab) (g := 5) (t := 219) (e := 191) (n := 20) (by kernel_rfl) (by kernel_rfl) (by kernel_rfl) (by kernel_rfl) (by kernel_rfl) (by kernel_rfl)
      (show laidMet _ ((_, Lib.tabData .u64 Lib.pow10Tab) :: _) _ from (show Rows.laid_internal_strconv_uint64pow10 = (Lib.tabData .u64 Lib.pow10Tab : DataW Unit) from by kernel_rfl) ▸ h1)
    errS := iface_var h3 (g := 1) (ti := 132) (by kernel_rfl) (by kernel_rfl) Tryz.underlying132
    errR := iface_var h2 (g := 2) (ti := 132) (by kernel_rfl) (by kernel_rfl) Tryz.underlying132 }
end Go.Proofs.YtillhaipemengaaGreatDoor
end

section
namespace Go.Proofs.YtillhaipemengaaGreatDoor.LMore
open Go.RowKit Go.Proofs.YtillhaipemengaaGreatDoor Go.Proofs.YtillhaipemengaaGreatDoor.K0 Go.Proofs.YtillhaipemengaaGreatDoor.RD Go.Proofs.YtillhaipemengaaGreatDoor.RS Go.Proofs.YtillhaipemengaaGreatDoorW.PrintWords Go.Proofs.YtillhaipemengaaGreatDoorW.PrintLast Go.Proofs.YtillhaipemengaaGreatDoorW.PrintMore
attribute [local go_sem] max2_int min2_int max_two min_two max_three min_three max_four min_four
set_option linter.unusedVariables false
set_option linter.unusedSimpArgs false
end Go.Proofs.YtillhaipemengaaGreatDoor.LMore
end

section
namespace Go.Proofs.YtillhaipemengaaGreatDoor.LMore
open Go.RowKit Go.Proofs.YtillhaipemengaaGreatDoor Go.Proofs.YtillhaipemengaaGreatDoor.K0 Go.Proofs.YtillhaipemengaaGreatDoor.RD Go.Proofs.YtillhaipemengaaGreatDoor.RS Go.Proofs.YtillhaipemengaaGreatDoorW.PrintWords Go.Proofs.YtillhaipemengaaGreatDoorW.PrintLast Go.Proofs.YtillhaipemengaaGreatDoorW.PrintMore
attribute [local go_sem] max2_int min2_int max_two min_two max_three min_three max_four min_four
set_option linter.unusedVariables false
set_option linter.unusedSimpArgs false
theorem eqA26 (d : Nat) (w : World) (x0 y0 : Int) (x1 y1 : Int) (x2 y2 : Int) (x3 y3 : ByteArray) (x4 y4 : ByteArray) :
  (Op.equalIn (d + 2) 26 (.agg #[.int .i64 x0, .int .i64 x1, .int .i64 x2, .string x3, .string x4]) (.agg #[.int .i64 y0, .int .i64 y1, .int .i64 y2, .string y3, .string y4])).run Tryz.prog w = .ok (x0 == y0 && (x1 == y1 && (x2 == y2 && (x3.toList == y3.toList && (x4.toList == y4.toList))))) w := by
 refine eqA_of Tryz.underlying26 (by kernel_rfl) ?_
 refine eqf_cons (by rfl) (by go_simp; rfl) (by go_simp; rfl) (by go_simp) ?_
 refine eqf_cons (by rfl) (by go_simp; rfl) (by go_simp; rfl) (by go_simp) ?_
 refine eqf_cons (by rfl) (by go_simp; rfl) (by go_simp; rfl) (by go_simp) ?_
 refine eqf_cons (by rfl) (by go_simp; rfl) (by go_simp; rfl) (by go_simp) ?_
 exact eqf_last (by rfl) (by go_simp; rfl) (by go_simp; rfl) (by go_simp)
theorem eqA30 (d : Nat) (w : World) (x0 y0 : Int) (x1 y1 : Bool) (x2 y2 : Int) (x3 y3 : Int) (x4 y4 : Int) (x5 y5 : ByteArray) (x6 y6 : ByteArray) (x7 y7 : Int) (x8 y8 : Int) (x9 y9 : Int) (x10 y10 : ByteArray) (x11 y11 : ByteArray) (x12 y12 : Int) :
  (Op.equalIn (d + 3) 30 (.agg #[.int .i64 x0, .bool x1, .int .i64 x2, .int .i64 x3, .int .i64 x4, .string x5, .string x6, .int .i64 x7, .int .i64 x8, .int .i64 x9, .string x10, .string x11, .int .i64 x12]) (.agg #[.int .i64 y0, .bool y1, .int .i64 y2, .int .i64 y3, .int .i64 y4, .string y5, .string y6, .int .i64 y7, .int .i64 y8, .int .i64 y9, .string y10, .string y11, .int .i64 y12])).run Tryz.prog w = .ok (x0 == y0 && (x1 == y1 && ((x2 == y2 && (x3 == y3 && (x4 == y4 && (x5.toList == y5.toList && (x6.toList == y6.toList))))) && ((x7 == y7 && (x8 == y8 && (x9 == y9 && (x10.toList == y10.toList && (x11.toList == y11.toList))))) && (x12 == y12))))) w := by
 refine eqA_of Tryz.underlying30 (by kernel_rfl) ?_
 refine eqf_cons (by rfl) (by go_simp; rfl) (by go_simp; rfl) (by go_simp) ?_
 refine eqf_cons (by rfl) (by go_simp; rfl) (by go_simp; rfl) (by go_simp) ?_
 refine eqf_cons (by rfl) (by go_simp) (by go_simp) (eqA26 (d + 0) w _ _ _ _ _ _ _ _ _ _) ?_
 refine eqf_cons (by rfl) (by go_simp) (by go_simp) (eqA26 (d + 0) w _ _ _ _ _ _ _ _ _ _) ?_
 exact eqf_last (by rfl) (by go_simp; rfl) (by go_simp; rfl) (by go_simp)
end Go.Proofs.YtillhaipemengaaGreatDoor.LMore
end

section
namespace Go.Proofs.YtillhaipemengaaGreatDoor.LMore
open Go.RowKit Go.Proofs.YtillhaipemengaaGreatDoor Go.Proofs.YtillhaipemengaaGreatDoor.K0 Go.Proofs.YtillhaipemengaaGreatDoor.RD Go.Proofs.YtillhaipemengaaGreatDoor.RS Go.Proofs.YtillhaipemengaaGreatDoorW.PrintWords Go.Proofs.YtillhaipemengaaGreatDoorW.PrintLast Go.Proofs.YtillhaipemengaaGreatDoorW.PrintMore
attribute [local go_sem] max2_int min2_int max_two min_two max_three min_three max_four min_four
set_option linter.unusedVariables false
set_option linter.unusedSimpArgs false
attribute [local go_sem high] eqA30 eqA34
mutual
def armadalaw18_BumpMore.j0 : Nat → Int → Bool → List (S63) → List (S71) → List Int → List (S61) → Option (Bool)
 | 0, _, _, _, _, _, _ => none
 | k + 1, x1, x22, x102000, x102001, x102002, x102003 => if x22 = true then ((armadalaw18_live.f).bind fun t103 => (some t103)) else (if ([] : List Int).length + x102002.length < 17592186044416 then ((some (([] : List Int) ++ x102002 : List Int)).bind fun y104 => (if y104.length < 17592186044416 then ((armadalaw18_own.f k x102003).bind fun t110 => ((bump_Releases.f x102000 x102001 x102002 t110).bind fun bt113 => ((armadalaw18_own.f k x102003).bind fun t117 => ((bump_Releases.f x102000 x102001 (y104 ++ [x1]) t117).bind fun bt120 => ((bump_Releases.f x102000 x102001 ([] : List Int) ([] : List (S72))).bind fun bt124 => (if (bt124.1.length : Int) = 0 then (if bt124.2 = 0 then (armadalaw18_BumpMore.j1 k bt113.1 bt113.2 bt120.1 bt120.2 false) else (armadalaw18_BumpMore.j1 k bt113.1 bt113.2 bt120.1 bt120.2 (bt113.2 == 0))) else (armadalaw18_BumpMore.j1 k bt113.1 bt113.2 bt120.1 bt120.2 true))))))) else (none))) else (none))
def armadalaw18_BumpMore.j1 : Nat → List (S30) → Int → List (S30) → Int → Bool → Option (Bool)
 | 0, _, _, _, _, _ => none
 | k + 1, x6, x7, x8, x9, x75 => if x75 = true then (some false) else (if x9 = 0 then (if x7 = 0 then (armadalaw18_BumpMore.j2 k x6 x8 (decide ((x6.length : Int) > (x8.length : Int)))) else (armadalaw18_BumpMore.j2 k x6 x8 true)) else (if (x8.length : Int) = 0 then ((armadalaw18_live.f).bind fun t128 => (some t128)) else (some false)))
def armadalaw18_BumpMore.j2 : Nat → List (S30) → List (S30) → Bool → Option (Bool)
 | 0, _, _, _ => none
 | k + 1, x6, x8, x92 => if x92 = true then (some false) else (armadalaw18_BumpMore.l0 k x6 x8 0 0)
def armadalaw18_BumpMore.l0 : Nat → List (S30) → List (S30) → Int → Int → Option (Bool)
 | 0, _, _, _, _ => none
 | k + 1, x6, x8, x12, x13 => if x13 < (x8.length : Int) then (if x12 < (x6.length : Int) then (if 0 ≤ x12 then (if 0 ≤ x13 then (if (((rd_T30 x6 x12).f0) == ((rd_T30 x8 x13).f0) && (((rd_T30 x6 x12).f1) == ((rd_T30 x8 x13).f1) && ((((rd_T30 x6 x12).f2.f0) == ((rd_T30 x8 x13).f2.f0) && (((rd_T30 x6 x12).f2.f1) == ((rd_T30 x8 x13).f2.f1) && (((rd_T30 x6 x12).f2.f2) == ((rd_T30 x8 x13).f2.f2) && ((((rd_T30 x6 x12).f2.f3).toList) == (((rd_T30 x8 x13).f2.f3).toList) && ((((rd_T30 x6 x12).f2.f4).toList) == (((rd_T30 x8 x13).f2.f4).toList)))))) && ((((rd_T30 x6 x12).f3.f0) == ((rd_T30 x8 x13).f3.f0) && (((rd_T30 x6 x12).f3.f1) == ((rd_T30 x8 x13).f3.f1) && (((rd_T30 x6 x12).f3.f2) == ((rd_T30 x8 x13).f3.f2) && ((((rd_T30 x6 x12).f3.f3).toList) == (((rd_T30 x8 x13).f3.f3).toList) && ((((rd_T30 x6 x12).f3.f4).toList) == (((rd_T30 x8 x13).f3.f4).toList)))))) && (((rd_T30 x6 x12).f4) == ((rd_T30 x8 x13).f4)))))) = true then (armadalaw18_BumpMore.l0 k x6 x8 (wrap64 (x12 + 1)) (wrap64 (x13 + 1))) else (armadalaw18_BumpMore.l0 k x6 x8 x12 (wrap64 (x13 + 1)))) else (none)) else (none)) else (armadalaw18_BumpMore.l0 k x6 x8 x12 (wrap64 (x13 + 1)))) else (if x12 = (x6.length : Int) then ((armadalaw18_live.f).bind fun t131 => (some t131)) else (some false))
end
def armadalaw18_BumpMore.f (k : Nat) (l0_0 : List (S63)) (l0_1 : List (S71)) (l0_2 : List Int) (l0_3 : List (S61)) (a1 : Int) : Option (Bool) := (armadalaw18_small.f k l0_0 l0_1 l0_2 l0_3).bind fun t102 => (if t102 = true then (armadalaw18_BumpMore.j0 k a1 (decide ((l0_2.length : Int) > 29)) l0_0 l0_1 l0_2 l0_3) else (armadalaw18_BumpMore.j0 k a1 true l0_0 l0_1 l0_2 l0_3))
theorem armadalaw18_BumpMore.mono_l : ∀ k, (∀ y0 y1 y2 y3 y4 y5, LeO (armadalaw18_BumpMore.j0 k y0 y1 y2 y3 y4 y5) (armadalaw18_BumpMore.j0 (k + 1) y0 y1 y2 y3 y4 y5)) ∧ (∀ y0 y1 y2 y3 y4, LeO (armadalaw18_BumpMore.j1 k y0 y1 y2 y3 y4) (armadalaw18_BumpMore.j1 (k + 1) y0 y1 y2 y3 y4)) ∧ (∀ y0 y1 y2, LeO (armadalaw18_BumpMore.j2 k y0 y1 y2) (armadalaw18_BumpMore.j2 (k + 1) y0 y1 y2)) ∧ (∀ y0 y1 y2 y3, LeO (armadalaw18_BumpMore.l0 k y0 y1 y2 y3) (armadalaw18_BumpMore.l0 (k + 1) y0 y1 y2 y3))
 | 0 => ⟨fun _ _ _ _ _ _ r h => by simp [armadalaw18_BumpMore.j0] at h, fun _ _ _ _ _ r h => by simp [armadalaw18_BumpMore.j1] at h, fun _ _ _ r h => by simp [armadalaw18_BumpMore.j2] at h, fun _ _ _ _ r h => by simp [armadalaw18_BumpMore.l0] at h⟩
 | k + 1 => by
  obtain ⟨ih0, ih1, ih2, ih3⟩ := armadalaw18_BumpMore.mono_l k
  refine ⟨?_, ?_, ?_, ?_⟩
  ·
   intro y0 y1 y2 y3 y4 y5
   unfold armadalaw18_BumpMore.j0
   repeat' first
   | (with_reducible exact ih0 _ _ _ _ _ _)
   | (with_reducible exact ih1 _ _ _ _ _)
   | (with_reducible exact ih2 _ _ _)
   | (with_reducible exact ih3 _ _ _ _)
   | (with_reducible exact armadalaw18_own.mono _ _)
   | (with_reducible exact armadalaw18_small.mono _ _ _ _ _)
   | (with_reducible exact LeO.refl _)
   | (with_reducible exact LeO.none _)
   | (with_reducible refine LeO.ite ?_ ?_)
   | (with_reducible refine LeO.bind ?_ (fun _ => ?_))
   | exact ih0 _ _ _ _ _ _
   | exact ih1 _ _ _ _ _
   | exact ih2 _ _ _
   | exact ih3 _ _ _ _
   | exact armadalaw18_own.mono _ _
   | exact armadalaw18_small.mono _ _ _ _ _
   | exact LeO.none _
   | refine LeO.ite ?_ ?_
   | refine LeO.bind ?_ (fun _ => ?_)
  ·
   intro y0 y1 y2 y3 y4
   unfold armadalaw18_BumpMore.j1
   repeat' first
   | (with_reducible exact ih0 _ _ _ _ _ _)
   | (with_reducible exact ih1 _ _ _ _ _)
   | (with_reducible exact ih2 _ _ _)
   | (with_reducible exact ih3 _ _ _ _)
   | (with_reducible exact armadalaw18_own.mono _ _)
   | (with_reducible exact armadalaw18_small.mono _ _ _ _ _)
   | (with_reducible exact LeO.refl _)
   | (with_reducible exact LeO.none _)
   | (with_reducible refine LeO.ite ?_ ?_)
   | (with_reducible refine LeO.bind ?_ (fun _ => ?_))
   | exact ih0 _ _ _ _ _ _
   | exact ih1 _ _ _ _ _
   | exact ih2 _ _ _
   | exact ih3 _ _ _ _
   | exact armadalaw18_own.mono _ _
   | exact armadalaw18_small.mono _ _ _ _ _
   | exact LeO.none _
   | refine LeO.ite ?_ ?_
   | refine LeO.bind ?_ (fun _ => ?_)
  ·
   intro y0 y1 y2
   unfold armadalaw18_BumpMore.j2
   repeat' first
   | (with_reducible exact ih0 _ _ _ _ _ _)
   | (with_reducible exact ih1 _ _ _ _ _)
   | (with_reducible exact ih2 _ _ _)
   | (with_reducible exact ih3 _ _ _ _)
   | (with_reducible exact armadalaw18_own.mono _ _)
   | (with_reducible exact armadalaw18_small.mono _ _ _ _ _)
   | (with_reducible exact LeO.refl _)
   | (with_reducible exact LeO.none _)
   | (with_reducible refine LeO.ite ?_ ?_)
   | (with_reducible refine LeO.bind ?_ (fun _ => ?_))
   | exact ih0 _ _ _ _ _ _
   | exact ih1 _ _ _ _ _
   | exact ih2 _ _ _
   | exact ih3 _ _ _ _
   | exact armadalaw18_own.mono _ _
   | exact armadalaw18_small.mono _ _ _ _ _
   | exact LeO.none _
   | refine LeO.ite ?_ ?_
   | refine LeO.bind ?_ (fun _ => ?_)
  ·
   intro y0 y1 y2 y3
   unfold armadalaw18_BumpMore.l0
   repeat' first
   | (with_reducible exact ih0 _ _ _ _ _ _)
   | (with_reducible exact ih1 _ _ _ _ _)
   | (with_reducible exact ih2 _ _ _)
   | (with_reducible exact ih3 _ _ _ _)
   | (with_reducible exact armadalaw18_own.mono _ _)
   | (with_reducible exact armadalaw18_small.mono _ _ _ _ _)
   | (with_reducible exact LeO.refl _)
   | (with_reducible exact LeO.none _)
   | (with_reducible refine LeO.ite ?_ ?_)
   | (with_reducible refine LeO.bind ?_ (fun _ => ?_))
   | exact ih0 _ _ _ _ _ _
   | exact ih1 _ _ _ _ _
   | exact ih2 _ _ _
   | exact ih3 _ _ _ _
   | exact armadalaw18_own.mono _ _
   | exact armadalaw18_small.mono _ _ _ _ _
   | exact LeO.none _
   | refine LeO.ite ?_ ?_
   | refine LeO.bind ?_ (fun _ => ?_)
theorem armadalaw18_BumpMore.mono : ∀ a0 a1 a2 a3 a4 k, LeO (armadalaw18_BumpMore.f k a0 a1 a2 a3 a4) (armadalaw18_BumpMore.f (k + 1) a0 a1 a2 a3 a4) := by
 intro a0 a1 a2 a3 a4 k
 obtain ⟨ih0, ih1, ih2, ih3⟩ := armadalaw18_BumpMore.mono_l k
 unfold armadalaw18_BumpMore.f
 repeat' first
   | (with_reducible exact ih0 _ _ _ _ _ _)
   | (with_reducible exact ih1 _ _ _ _ _)
   | (with_reducible exact ih2 _ _ _)
   | (with_reducible exact ih3 _ _ _ _)
   | (with_reducible exact armadalaw18_own.mono _ _)
   | (with_reducible exact armadalaw18_small.mono _ _ _ _ _)
   | (with_reducible exact LeO.refl _)
   | (with_reducible exact LeO.none _)
   | (with_reducible refine LeO.ite ?_ ?_)
   | (with_reducible refine LeO.bind ?_ (fun _ => ?_))
   | exact ih0 _ _ _ _ _ _
   | exact ih1 _ _ _ _ _
   | exact ih2 _ _ _
   | exact ih3 _ _ _ _
   | exact armadalaw18_own.mono _ _
   | exact armadalaw18_small.mono _ _ _ _ _
   | exact LeO.none _
   | refine LeO.ite ?_ ?_
   | refine LeO.bind ?_ (fun _ => ?_)
def armadalaw18_BumpMore.T6 : Bool × List (List Nat × List Nat) := (true, [([], []), ([0], [0]), ([], []), ([2], [2]), ([], []), ([4], [4]), ([], []), ([6], [6]), ([7], [7]), ([1, 3, 5, 8, 8], [1, 3, 5, 8]), ([9], [9]), ([10], [10]), ([10], [10]), ([11, 9, 0, 1, 2, 3, 4, 5, 6, 7, 8, 9, 10, 11], [11]), ([12, 13, 0, 1, 2, 3, 4, 5, 6, 7, 8, 9, 10, 11, 12, 13], [12])])
def armadalaw18_BumpMore.B6 : List Nat := [0, 1, 0, 4, 0, 16, 0, 64, 192, 511, 1023, 2047, 2047, 4095, 16383]
theorem armadalaw18_BumpMore.tab6 : rtab .any (opsOf Tryz.f6 6) = armadalaw18_BumpMore.T6 := by kernel_rfl
theorem armadalaw18_BumpMore.bits6 : waitsOk armadalaw18_BumpMore.T6.2 armadalaw18_BumpMore.B6 = true := by kernel_rfl
def armadalaw18_BumpMore.T7 : Bool × List (List Nat × List Nat) := (true, [([], []), ([0], [0]), ([], []), ([2], [2]), ([], []), ([], []), ([5], [5]), ([6], [6]), ([1, 3, 4, 7, 7], [1, 3, 4, 7]), ([8], [8]), ([9], [9]), ([9], [9]), ([10, 8, 0, 1, 2, 3, 4, 5, 6, 7, 8, 9, 10], [10]), ([11, 12, 0, 1, 2, 3, 4, 5, 6, 7, 8, 9, 10, 11, 12], [11])])
def armadalaw18_BumpMore.B7 : List Nat := [0, 1, 0, 4, 0, 0, 32, 96, 255, 511, 1023, 1023, 2047, 8191]
theorem armadalaw18_BumpMore.tab7 : rtab .any (opsOf Tryz.f6 7) = armadalaw18_BumpMore.T7 := by kernel_rfl
theorem armadalaw18_BumpMore.bits7 : waitsOk armadalaw18_BumpMore.T7.2 armadalaw18_BumpMore.B7 = true := by kernel_rfl
def armadalaw18_BumpMore.T19 : Bool × List (List Nat × List Nat) := (true, [([], []), ([], []), ([1], [1]), ([0, 2], [0, 2]), ([3], [3]), ([4], [4]), ([4], [4]), ([5, 6, 4], [4, 5, 6]), ([7, 4], [4, 7]), ([4], [4]), ([4], [4]), ([9, 10, 4], [4, 9, 10]), ([11, 4], [4, 11]), ([8, 12, 4], [4, 8, 12]), ([4, 13], [4, 13])])
def armadalaw18_BumpMore.B19 : List Nat := [0, 0, 2, 7, 15, 31, 31, 127, 255, 31, 31, 1567, 3615, 8191, 16383]
theorem armadalaw18_BumpMore.tab19 : rtab .any (opsOf Tryz.f6 19) = armadalaw18_BumpMore.T19 := by kernel_rfl
theorem armadalaw18_BumpMore.bits19 : waitsOk armadalaw18_BumpMore.T19.2 armadalaw18_BumpMore.B19 = true := by kernel_rfl
set_option maxHeartbeats 8000000 in
set_option maxRecDepth 100000 in
theorem armadalaw18_BumpMore.calls (k : Nat) (A0_0 : Option Addr) (c0_0 : Nat) (l0_0 : List (S63)) (A0_1 : Option Addr) (c0_1 : Nat) (l0_1 : List (S71)) (A0_2 : Option Addr) (c0_2 : Nat) (l0_2 : List Int) (A0_3 : Option Addr) (c0_3 : Nat) (l0_3 : List (S61)) (a1 : Int) (r : Bool) (w : World) (hr0_0 : Kd.C k63 w A0_0 l0_0.length l0_0) (hc0_0 : l0_0.length ≤ c0_0) (hr0_1 : Kd.C k71 w A0_1 l0_1.length l0_1) (hc0_1 : l0_1.length ≤ c0_1) (hr0_2 : Kd.C (Kd.int .i64) w A0_2 l0_2.length l0_2) (hc0_2 : l0_2.length ≤ c0_2) (hr0_3 : Kd.C k61 w A0_3 l0_3.length l0_3) (hc0_3 : l0_3.length ≤ c0_3) (hG : GW w) (hT : r = true) (h : armadalaw18_BumpMore.f k l0_0 l0_1 l0_2 l0_3 a1 = some r) :
  Calls Tryz.prog 6 #[.agg #[.slice A0_0 l0_0.length c0_0, .slice A0_1 l0_1.length c0_1, .slice A0_2 l0_2.length c0_2, .slice A0_3 l0_3.length c0_3], .int .i64 a1] w fun e w' => e = .returned (.bool r) ∧ Below w.heap.size w w' := by
 have hu42 := Tryz.underlying42
 have hu30 := Tryz.underlying30
 have HR0_0 := Aside0.mk hr0_0
 have HC0_0 := Aside0.mk hc0_0
 clear hr0_0 hc0_0
 have HR0_1 := Aside0.mk hr0_1
 have HC0_1 := Aside0.mk hc0_1
 clear hr0_1 hc0_1
 have HR0_2 := Aside0.mk hr0_2
 have HC0_2 := Aside0.mk hc0_2
 clear hr0_2 hc0_2
 have HR0_3 := Aside0.mk hr0_3
 have HC0_3 := Aside0.mk hc0_3
 clear hr0_3 hc0_3
 have HGW := Aside0.mk hG
 clear hG
 have HTRU_ := Aside0.mk hT
 clear hT
 have HB := Aside0.mk (Below.refl w.heap.size w)
 have H : ((armadalaw18_small.f k l0_0 l0_1 l0_2 l0_3).bind fun t102 => (if t102 = true then (armadalaw18_BumpMore.j0 k a1 (decide ((l0_2.length : Int) > 29)) l0_0 l0_1 l0_2 l0_3) else (armadalaw18_BumpMore.j0 k a1 true l0_0 l0_1 l0_2 l0_3))) = some r := h
 clear h
 have HC3 := Aside0.mk H
 clear H
 go_enter Tryz.func6, Tryz.ntmps6
 go_upto_region 1 with (first | ((with_reducible refine gate_dst (N := 2) rfl ?_); (try (refine gate_guard (by rfl) ?_; dsimp only)); refine box_event ?hg (N := 2) ?hd (cs := #[.slice A0_0 l0_0.length c0_0, .slice A0_1 l0_1.length c0_1, .slice A0_2 l0_2.length c0_2, .slice A0_3 l0_3.length c0_3]) (t := 42) ?hr ?_; (case hd => rfl); (case hg => rfl); (case hr => first | (go_simp; done) | (go_simp; rfl)); intro gb101 hg w4 hbox hb; have BK101 := Aside0.mk (hbox); have GW101 := Aside0.mk ((by rw [hg]; exact (below_size xB) : w.heap.size ≤ gb101)); have GE101 := Aside0.mk ((by rw [hg]; exact (below_size xB) : w.heap.size ≤ gb101)); replace HB := Aside0.mk (below_step xB hb); clear hb hbox hg))
 (try simp only [Act.put, List.setIfInBounds_toArray, List.set_cons_zero, List.set_cons_succ])
 go_cut [22] (fun v22 wc => ∃ (kq : Nat) (x22_2 : Bool), v22 = .bool x22_2 ∧ Aside0 (armadalaw18_BumpMore.j0 kq a1 x22_2 l0_0 l0_1 l0_2 l0_3 = some r) ∧ Aside0 (kq ≤ k) ∧ Aside0 (wc.heap[gb101]? = some (.cells #[(.slice A0_0 l0_0.length c0_0), (.slice A0_1 l0_1.length c0_1), (.slice A0_2 l0_2.length c0_2), (.slice A0_3 l0_3.length c0_3)] 42 (0, 0))) ∧ Aside0 (Below w.heap.size w wc))
 case first =>
  have H := HC3.out
  clear HC3
  replace H := xb H
  obtain ⟨t102, A5, H⟩ := H
  by_cases c6 : t102 = true
  ·
   subst c6
   rw [if_pos rfl] at H
   have H' := Aside0.mk H
   clear H
   have hcz7_0 : w4.cell? ⟨gb101, 0, none⟩ = some (.slice A0_0 l0_0.length c0_0) := (blk_cell BK101.out 0).trans rfl
   have hcz7_1 : w4.cell? ⟨gb101, 1, none⟩ = some (.slice A0_1 l0_1.length c0_1) := (blk_cell BK101.out 1).trans rfl
   have hcz7_2 : w4.cell? ⟨gb101, 2, none⟩ = some (.slice A0_2 l0_2.length c0_2) := (blk_cell BK101.out 2).trans rfl
   have hcz7_3 : w4.cell? ⟨gb101, 3, none⟩ = some (.slice A0_3 l0_3.length c0_3) := (blk_cell BK101.out 3).trans rfl
   have hfz7_0 := blk_frozen BK101.out 0
   have hfz7_1 := blk_frozen BK101.out 1
   have hfz7_2 := blk_frozen BK101.out 2
   have hfz7_3 := blk_frozen BK101.out 3
   go_wp2_with (first | ((with_reducible refine gate_callee (f := 14) rfl ?_); refine goesL_ (some 15) rfl rfl Tryz.func14 (by kernel_rfl) rfl #[.agg #[.slice A0_0 l0_0.length c0_0, .slice A0_1 l0_1.length c0_1, .slice A0_2 l0_2.length c0_2, .slice A0_3 l0_3.length c0_3]] rfl xS ?_; (with_reducible refine (armadalaw18_small.calls k _ _ l0_0 _ _ l0_1 _ _ l0_2 _ _ l0_3 true _ ?side1 ?side2 ?side3 ?side4 ?side5 ?side6 ?side7 ?side8 A5.out).mono ?_); (case side1 => repeat (first | exact (Kd.C_below HR0_0.out HB.out) | (with_reducible refine Kd.C_alloc ?_ _) | (with_reducible refine Kd.C_drewN ?_ _) | (with_reducible refine Kd.C_drew ?_))); (case side2 => exact HC0_0.out); (case side3 => repeat (first | exact (Kd.C_below HR0_1.out HB.out) | (with_reducible refine Kd.C_alloc ?_ _) | (with_reducible refine Kd.C_drewN ?_ _) | (with_reducible refine Kd.C_drew ?_))); (case side4 => exact HC0_1.out); (case side5 => repeat (first | exact (Kd.C_below HR0_2.out HB.out) | (with_reducible refine Kd.C_alloc ?_ _) | (with_reducible refine Kd.C_drewN ?_ _) | (with_reducible refine Kd.C_drew ?_))); (case side6 => exact HC0_2.out); (case side7 => repeat (first | exact (Kd.C_below HR0_3.out HB.out) | (with_reducible refine Kd.C_alloc ?_ _) | (with_reducible refine Kd.C_drewN ?_ _) | (with_reducible refine Kd.C_drew ?_))); (case side8 => exact HC0_3.out); rintro e w8 ⟨rfl, hb⟩; refine ⟨_, rfl, ?_⟩; replace BK101 := Aside0.mk (blk_below (g := gb101) (o := .cells #[.slice A0_0 l0_0.length c0_0, .slice A0_1 l0_1.length c0_1, .slice A0_2 l0_2.length c0_2, .slice A0_3 l0_3.length c0_3] 42 (0, 0)) xK hb); replace HB := Aside0.mk (below_step xB hb); (try clear hb); (try clear hb2); (try clear hk); (try clear hi); obtain ⟨hcz9_0, hcz9_1, hcz9_2, hcz9_3⟩ := xC4 BK101.out; obtain ⟨hfz9_0, hfz9_1, hfz9_2, hfz9_3⟩ := xF4 BK101.out))
   go_meet
   case rel => exact ⟨_, (decide ((l0_2.length : Int) > 29)), xR, H', ⟨by first | omega | exact Nat.le_refl _⟩, ⟨by (with_reducible repeat (first | refine blk_drewN ?_ _ | refine blk_drew ?_ | refine blk_alloc ?_ _)); exact BK101.out⟩, ⟨xB⟩⟩
  replace c6 := Bool.eq_false_iff.mpr c6
  subst c6
  rw [if_neg (show ¬ (false = true) by decide)] at H
  have H' := Aside0.mk H
  clear H
  have hcz10_0 : w4.cell? ⟨gb101, 0, none⟩ = some (.slice A0_0 l0_0.length c0_0) := (blk_cell BK101.out 0).trans rfl
  have hcz10_1 : w4.cell? ⟨gb101, 1, none⟩ = some (.slice A0_1 l0_1.length c0_1) := (blk_cell BK101.out 1).trans rfl
  have hcz10_2 : w4.cell? ⟨gb101, 2, none⟩ = some (.slice A0_2 l0_2.length c0_2) := (blk_cell BK101.out 2).trans rfl
  have hcz10_3 : w4.cell? ⟨gb101, 3, none⟩ = some (.slice A0_3 l0_3.length c0_3) := (blk_cell BK101.out 3).trans rfl
  have hfz10_0 := blk_frozen BK101.out 0
  have hfz10_1 := blk_frozen BK101.out 1
  have hfz10_2 := blk_frozen BK101.out 2
  have hfz10_3 := blk_frozen BK101.out 3
  go_wp2_with (first | ((with_reducible refine gate_callee (f := 14) rfl ?_); refine goesL_ (some 15) rfl rfl Tryz.func14 (by kernel_rfl) rfl #[.agg #[.slice A0_0 l0_0.length c0_0, .slice A0_1 l0_1.length c0_1, .slice A0_2 l0_2.length c0_2, .slice A0_3 l0_3.length c0_3]] rfl xS ?_; (with_reducible refine (armadalaw18_small.calls k _ _ l0_0 _ _ l0_1 _ _ l0_2 _ _ l0_3 false _ ?side1 ?side2 ?side3 ?side4 ?side5 ?side6 ?side7 ?side8 A5.out).mono ?_); (case side1 => repeat (first | exact (Kd.C_below HR0_0.out HB.out) | (with_reducible refine Kd.C_alloc ?_ _) | (with_reducible refine Kd.C_drewN ?_ _) | (with_reducible refine Kd.C_drew ?_))); (case side2 => exact HC0_0.out); (case side3 => repeat (first | exact (Kd.C_below HR0_1.out HB.out) | (with_reducible refine Kd.C_alloc ?_ _) | (with_reducible refine Kd.C_drewN ?_ _) | (with_reducible refine Kd.C_drew ?_))); (case side4 => exact HC0_1.out); (case side5 => repeat (first | exact (Kd.C_below HR0_2.out HB.out) | (with_reducible refine Kd.C_alloc ?_ _) | (with_reducible refine Kd.C_drewN ?_ _) | (with_reducible refine Kd.C_drew ?_))); (case side6 => exact HC0_2.out); (case side7 => repeat (first | exact (Kd.C_below HR0_3.out HB.out) | (with_reducible refine Kd.C_alloc ?_ _) | (with_reducible refine Kd.C_drewN ?_ _) | (with_reducible refine Kd.C_drew ?_))); (case side8 => exact HC0_3.out); rintro e w11 ⟨rfl, hb⟩; refine ⟨_, rfl, ?_⟩; replace BK101 := Aside0.mk (blk_below (g := gb101) (o := .cells #[.slice A0_0 l0_0.length c0_0, .slice A0_1 l0_1.length c0_1, .slice A0_2 l0_2.length c0_2, .slice A0_3 l0_3.length c0_3] 42 (0, 0)) xK hb); replace HB := Aside0.mk (below_step xB hb); (try clear hb); (try clear hb2); (try clear hk); (try clear hi)))
  go_meet
  case rel => exact ⟨_, (true), xR, H', ⟨by first | omega | exact Nat.le_refl _⟩, ⟨by (with_reducible repeat (first | refine blk_drewN ?_ _ | refine blk_drew ?_ | refine blk_alloc ?_ _)); exact BK101.out⟩, ⟨xB⟩⟩
 case rest =>
  clear HC3
  try clear c1
  try clear p2
  try clear c6
  try clear hcz10_0
  try clear hcz10_1
  try clear hcz10_2
  try clear hcz10_3
  try clear hcz7_0
  try clear hcz7_1
  try clear hcz7_2
  try clear hcz7_3
  try clear hcz9_0
  try clear hcz9_1
  try clear hcz9_2
  try clear hcz9_3
  try clear hfz10_0
  try clear hfz10_1
  try clear hfz10_2
  try clear hfz10_3
  try clear hfz7_0
  try clear hfz7_1
  try clear hfz7_2
  try clear hfz7_3
  try clear hfz9_0
  try clear hfz9_1
  try clear hfz9_2
  try clear hfz9_3
  obtain ⟨kq, x22_2, rfl, HA, HJ2, BK101, HB⟩ := hcut
  cases kq with
  | zero => exact absurd HA.out (by simp [armadalaw18_BumpMore.j0])
  | succ kj2 =>
   have H := HA.out
   clear HA
   simp only [armadalaw18_BumpMore.j0] at H
   by_cases c12 : x22_2 = true
   ·
    subst c12
    rw [if_pos rfl] at H
    replace H := xb H
    obtain ⟨t103, A13, H⟩ := H
    obtain rfl := Option.some.inj H
    go_wp2_with (first | ((with_reducible refine gate_callee (f := 9) rfl ?_); refine goesL_ (some 23) rfl rfl Tryz.func9 (by kernel_rfl) rfl #[] rfl xS ?_; (with_reducible refine (armadalaw18_live.calls  t103 _ ?side1 ?side2 A13.out).mono ?_); (case side1 => exact GW.below HGW.out xB); (case side2 => exact HTRU_.out); rintro e w14 ⟨rfl, hb⟩; refine ⟨_, rfl, ?_⟩; replace BK101 := Aside0.mk (blk_below (g := gb101) (o := .cells #[.slice A0_0 l0_0.length c0_0, .slice A0_1 l0_1.length c0_1, .slice A0_2 l0_2.length c0_2, .slice A0_3 l0_3.length c0_3] 42 (0, 0)) xK hb); replace HB := Aside0.mk (below_step xB hb); (try clear hb); (try clear hb2); (try clear hk); (try clear hi)))
    go_ret
    exact ⟨by first | rfl | (simp [errW_none, errW_some] <;> rfl) | (simp [*, errW_none, errW_some] <;> rfl) | (simp [isEmpty_bne]; done), xB⟩
   replace c12 := Bool.eq_false_iff.mpr c12
   subst c12
   rw [if_neg (show ¬ (false = true) by decide)] at H
   replace H := xI H
   obtain ⟨c15, H⟩ := H
   have LMc15 := Aside0.mk c15
   clear c15
   obtain ⟨y104, hy104⟩ : ∃ y_ : List Int, y_ = (([] : List Int) ++ l0_2) := ⟨_, rfl⟩
   replace H : (if y104.length < 17592186044416 then ((armadalaw18_own.f kj2 l0_3).bind fun t110 => ((bump_Releases.f l0_0 l0_1 l0_2 t110).bind fun bt113 => ((armadalaw18_own.f kj2 l0_3).bind fun t117 => ((bump_Releases.f l0_0 l0_1 (y104 ++ [a1]) t117).bind fun bt120 => ((bump_Releases.f l0_0 l0_1 ([] : List Int) ([] : List (S72))).bind fun bt124 => (if (bt124.1.length : Int) = 0 then (if bt124.2 = 0 then (armadalaw18_BumpMore.j1 kj2 bt113.1 bt113.2 bt120.1 bt120.2 false) else (armadalaw18_BumpMore.j1 kj2 bt113.1 bt113.2 bt120.1 bt120.2 (bt113.2 == 0))) else (armadalaw18_BumpMore.j1 kj2 bt113.1 bt113.2 bt120.1 bt120.2 true))))))) else (none)) = some r := by first | (rw [hy104]; with_reducible exact H) | (have H2_ := (Option.bind_some _ _).symm.trans H; rw [hy104]; with_reducible exact H2_) | (have H2_ := (Option.bind_some _ _).symm.trans H; with_reducible exact H2_) | with_reducible exact H | (rw [hy104]; exact H) | exact H
   have Ny104 := Aside0.mk hy104
   clear hy104
   replace H := xI H
   obtain ⟨c16, H⟩ := H
   have LMc16 := Aside0.mk c16
   clear c16
   obtain ⟨y107, hy107⟩ : ∃ y_ : List Int, y_ = (y104 ++ [a1]) := ⟨_, rfl⟩
   replace H : ((armadalaw18_own.f kj2 l0_3).bind fun t110 => ((bump_Releases.f l0_0 l0_1 l0_2 t110).bind fun bt113 => ((armadalaw18_own.f kj2 l0_3).bind fun t117 => ((bump_Releases.f l0_0 l0_1 y107 t117).bind fun bt120 => ((bump_Releases.f l0_0 l0_1 ([] : List Int) ([] : List (S72))).bind fun bt124 => (if (bt124.1.length : Int) = 0 then (if bt124.2 = 0 then (armadalaw18_BumpMore.j1 kj2 bt113.1 bt113.2 bt120.1 bt120.2 false) else (armadalaw18_BumpMore.j1 kj2 bt113.1 bt113.2 bt120.1 bt120.2 (bt113.2 == 0))) else (armadalaw18_BumpMore.j1 kj2 bt113.1 bt113.2 bt120.1 bt120.2 true))))))) = some r := by first | (rw [hy107]; with_reducible exact H) | (have H2_ := (Option.bind_some _ _).symm.trans H; rw [hy107]; with_reducible exact H2_) | (have H2_ := (Option.bind_some _ _).symm.trans H; with_reducible exact H2_) | with_reducible exact H | (rw [hy107]; exact H) | exact H
   have Ny107 := Aside0.mk hy107
   clear hy107
   replace H := xb H
   obtain ⟨t110, A17, H⟩ := H
   replace H := Option.bind_eq_some_iff.mp H
   obtain ⟨⟨t113, t114⟩, A180, H⟩ := H
   replace H : ((armadalaw18_own.f kj2 l0_3).bind fun t117 => ((bump_Releases.f l0_0 l0_1 y107 t117).bind fun bt120 => ((bump_Releases.f l0_0 l0_1 ([] : List Int) ([] : List (S72))).bind fun bt124 => (if (bt124.1.length : Int) = 0 then (if bt124.2 = 0 then (armadalaw18_BumpMore.j1 kj2 t113 t114 bt120.1 bt120.2 false) else (armadalaw18_BumpMore.j1 kj2 t113 t114 bt120.1 bt120.2 (t114 == 0))) else (armadalaw18_BumpMore.j1 kj2 t113 t114 bt120.1 bt120.2 true))))) = some r := H
   have A18 := Aside0.mk A180
   clear A180
   replace H := xb H
   obtain ⟨t117, A19, H⟩ := H
   replace H := Option.bind_eq_some_iff.mp H
   obtain ⟨⟨t120, t121⟩, A200, H⟩ := H
   replace H : ((bump_Releases.f l0_0 l0_1 ([] : List Int) ([] : List (S72))).bind fun bt124 => (if (bt124.1.length : Int) = 0 then (if bt124.2 = 0 then (armadalaw18_BumpMore.j1 kj2 t113 t114 t120 t121 false) else (armadalaw18_BumpMore.j1 kj2 t113 t114 t120 t121 (t114 == 0))) else (armadalaw18_BumpMore.j1 kj2 t113 t114 t120 t121 true))) = some r := H
   have A20 := Aside0.mk A200
   clear A200
   replace H := Option.bind_eq_some_iff.mp H
   obtain ⟨⟨t124, t125⟩, A210, H⟩ := H
   replace H : (if (t124.length : Int) = 0 then (if t125 = 0 then (armadalaw18_BumpMore.j1 kj2 t113 t114 t120 t121 false) else (armadalaw18_BumpMore.j1 kj2 t113 t114 t120 t121 (t114 == 0))) else (armadalaw18_BumpMore.j1 kj2 t113 t114 t120 t121 true)) = some r := H
   have A21 := Aside0.mk A210
   clear A210
   have HC22 := Aside0.mk H
   clear H
   have hcz23_0 : wc.cell? ⟨gb101, 0, none⟩ = some (.slice A0_0 l0_0.length c0_0) := (blk_cell BK101.out 0).trans rfl
   have hcz23_1 : wc.cell? ⟨gb101, 1, none⟩ = some (.slice A0_1 l0_1.length c0_1) := (blk_cell BK101.out 1).trans rfl
   have hcz23_2 : wc.cell? ⟨gb101, 2, none⟩ = some (.slice A0_2 l0_2.length c0_2) := (blk_cell BK101.out 2).trans rfl
   have hcz23_3 : wc.cell? ⟨gb101, 3, none⟩ = some (.slice A0_3 l0_3.length c0_3) := (blk_cell BK101.out 3).trans rfl
   have hfz23_0 := blk_frozen BK101.out 0
   have hfz23_1 := blk_frozen BK101.out 1
   have hfz23_2 := blk_frozen BK101.out 2
   have hfz23_3 := blk_frozen BK101.out 3
   try go_wp2_with (first | ((with_reducible refine gate_builtin (b := .append) (xs := #[.tmp 24, .tmp 26]) rfl ?_); (try (refine gate_guard (by rfl) ?_; dsimp only)); at_builtin; refine Kd.R_append_rows (Kd.int .i64) (w0 := w) w.heap.size rfl (.tmp 24) (.tmp 26) 39 3 (.int .i64 0) 8 rfl Tryz.underlying39 info3 rfl (by decide) (by omega) (.slice none 0 0) ([] : List Int) l0_2 _ _ _ (fun _ => True) (fun _ => False) rfl rfl ?aO ?aR (fun _ _ h => h) (fun _ h => h.elim) ?aF ?aB ?aS ?aL ?_; (case aR => repeat (first | exact (Kd.C_below HR0_2.out HB.out) | (with_reducible refine Kd.C_alloc ?_ _) | (with_reducible refine Kd.C_drewN ?_ _) | (with_reducible refine Kd.C_drew ?_))); (case aB => exact xB); (case aF => exact (fun _ _ => trivial)); (case aO => exact ((Kd.R_nil _ _ _ _ (fun _ => True)))); (case aS => exact (below_size xB)); (case aL => have := LMc15.out; omega); intro v105 w24 ho hb hg hat; rw [← Ny104.out] at ho; replace BK101 := Aside0.mk (blk_grown (g := gb101) (o := .cells #[.slice A0_0 l0_0.length c0_0, .slice A0_1 l0_1.length c0_1, .slice A0_2 l0_2.length c0_2, .slice A0_3 l0_3.length c0_3] 42 (0, 0)) xK hg (by simp [Value.ownBlock])); have HO106 := Aside0.mk (ho); replace HB := Aside0.mk (hb); clear ho hb hg hat) | ((with_reducible refine gate_builtin (b := .append) (xs := #[.tmp 28, .tmp 30]) rfl ?_); (try (refine gate_guard (by rfl) ?_; dsimp only)); at_builtin; refine Kd.R_append (Kd.int .i64) (w0 := w) w.heap.size rfl (.tmp 28) (.tmp 30) 39 3 (.int .i64 0) 8 rfl Tryz.underlying39 info3 rfl (by decide) (by omega) v105 y104 a1 [.int .i64 a1] (fun _ => True) (fun _ => False) rfl rfl ?aP (fun _ hk => hk.elim) ?aF ?aO ?aB ?aS ?aL ?_; (case aP => exact rfl); (case aB => exact xB); (case aF => exact (fun _ _ => trivial)); (case aO => exact (by (with_reducible repeat (first | apply Kd.R_alloc | apply Kd.R_drewN | apply Kd.R_drew)); exact HO106.out)); (case aS => exact (below_size xB)); (case aL => have := LMc16.out; omega); intro v108 w25 ho hb hg hat; rw [← Ny107.out] at ho; replace BK101 := Aside0.mk (blk_grown (g := gb101) (o := .cells #[.slice A0_0 l0_0.length c0_0, .slice A0_1 l0_1.length c0_1, .slice A0_2 l0_2.length c0_2, .slice A0_3 l0_3.length c0_3] 42 (0, 0)) xK hg (Kd.R_ne HO106.out BK101.out (by decide))); have HO109 := Aside0.mk (ho); replace HB := Aside0.mk (hb); clear HO106; clear ho hb hg hat))
   have n0_ := Aside0.mk (Kd.R_drew HO109.out)
   have n1_ := Aside0.mk (blk_drew BK101.out)
   have n2_ := Aside0.mk (below_drew1 HB.out)
   clear HO109
   clear BK101
   clear HB
   have HO109 := n0_
   have BK101 := n1_
   have HB := n2_
   clear n0_ n1_ n2_
   refine start_ (n := 15) (S := fun w' => w'.cell? ⟨gb101, 0, none⟩ = some (.slice A0_0 l0_0.length c0_0) ∧ w'.cell? ⟨gb101, 1, none⟩ = some (.slice A0_1 l0_1.length c0_1) ∧ w'.cell? ⟨gb101, 2, none⟩ = some (.slice A0_2 l0_2.length c0_2) ∧ w'.cell? ⟨gb101, 3, none⟩ = some (.slice A0_3 l0_3.length c0_3)) (ds := []) #[ff, ff, ff, ff, ff, ff, ff, ff, ff, ff, ff, ff, ff, ff, ff] (by kernel_rfl) rfl rfl ⟨(blk_cell BK101.out 0).trans rfl, (blk_cell BK101.out 1).trans rfl, (blk_cell BK101.out 2).trans rfl, (blk_cell BK101.out 3).trans rfl⟩ (fun hHeld => ?_); refine with_tabW armadalaw18_BumpMore.tab6 armadalaw18_BumpMore.bits6 (fun HT_ HW_ => ?_)
   generalize w25.drew = w26 at HO109 BK101 HB hHeld ⊢
   refine pure_ (i := 0) (N := some 33) (v := ?_) (a' := ?_) #[tt, ff, ff, ff, ff, ff, ff, ff, ff, ff, ff, ff, ff, ff, ff] rfl rfl (any_of HT_.out (by kernel_rfl)) (fun _ _ _ h => h) (Or.inl ⟨by rfl, ?_⟩) ?_ ?_
   rotate_left
   ·
    intro w'
    go_simp
    with_reducible rfl
   rotate_left
   ·
    simp only [Act.put, List.setIfInBounds_toArray, List.set_cons_zero, List.set_cons_succ, i64_w, i32_w]
    rfl
   refine pure_ (i := 2) (N := some 35) (v := ?_) (a' := ?_) #[tt, ff, tt, ff, ff, ff, ff, ff, ff, ff, ff, ff, ff, ff, ff] rfl rfl (any_of HT_.out (by kernel_rfl)) (fun _ _ _ h => h) (Or.inl ⟨by rfl, ?_⟩) ?_ ?_
   rotate_left
   ·
    intro w'
    go_simp
    with_reducible rfl
   rotate_left
   ·
    simp only [Act.put, List.setIfInBounds_toArray, List.set_cons_zero, List.set_cons_succ, i64_w, i32_w]
    rfl
   refine pure_ (i := 4) (N := some 37) (v := ?_) (a' := ?_) #[tt, ff, tt, ff, tt, ff, ff, ff, ff, ff, ff, ff, ff, ff, ff] rfl rfl (any_of HT_.out (by kernel_rfl)) (fun _ _ _ h => h) (Or.inl ⟨by rfl, ?_⟩) ?_ ?_
   rotate_left
   ·
    intro w'
    go_simp
    with_reducible rfl
   rotate_left
   ·
    simp only [Act.put, List.setIfInBounds_toArray, List.set_cons_zero, List.set_cons_succ, i64_w, i32_w]
    rfl
   refine pure_ (i := 6) (N := some 39) (v := ?_) (a' := ?_) #[tt, ff, tt, ff, tt, ff, tt, ff, ff, ff, ff, ff, ff, ff, ff] rfl rfl (any_of HT_.out (by kernel_rfl)) (fun _ _ _ h => h) (Or.inl ⟨by rfl, ?_⟩) ?_ ?_
   rotate_left
   ·
    intro w'
    go_simp
    with_reducible rfl
   rotate_left
   ·
    simp only [Act.put, List.setIfInBounds_toArray, List.set_cons_zero, List.set_cons_succ, i64_w, i32_w]
    rfl
   refine take_ (i := 1) (N := some 34) (v := ?_) (a' := ?_) #[tt, tt, tt, ff, tt, ff, tt, ff, ff, ff, ff, ff, ff, ff, ff] rfl rfl (take_ofW HT_.out HW_.out (by kernel_rfl)) (fun _ _ _ h => h) (Or.inl ⟨by rfl, ?_⟩) hHeld ?_ ?_
   rotate_left
   ·
    rintro w' ⟨s0, s1, s2, s3⟩
    go_simp
    with_reducible rfl
   rotate_left
   ·
    simp only [Act.put, List.setIfInBounds_toArray, List.set_cons_zero, List.set_cons_succ, i64_w, i32_w]
    rfl
   refine take_ (i := 3) (N := some 36) (v := ?_) (a' := ?_) #[tt, tt, tt, tt, tt, ff, tt, ff, ff, ff, ff, ff, ff, ff, ff] rfl rfl (take_ofW HT_.out HW_.out (by kernel_rfl)) (fun _ _ _ h => h) (Or.inl ⟨by rfl, ?_⟩) hHeld ?_ ?_
   rotate_left
   ·
    rintro w' ⟨s0, s1, s2, s3⟩
    go_simp
    with_reducible rfl
   rotate_left
   ·
    simp only [Act.put, List.setIfInBounds_toArray, List.set_cons_zero, List.set_cons_succ, i64_w, i32_w]
    rfl
   refine take_ (i := 5) (N := some 38) (v := ?_) (a' := ?_) #[tt, tt, tt, tt, tt, tt, tt, ff, ff, ff, ff, ff, ff, ff, ff] rfl rfl (take_ofW HT_.out HW_.out (by kernel_rfl)) (fun _ _ _ h => h) (Or.inl ⟨by rfl, ?_⟩) hHeld ?_ ?_
   rotate_left
   ·
    rintro w' ⟨s0, s1, s2, s3⟩
    go_simp
    with_reducible rfl
   rotate_left
   ·
    simp only [Act.put, List.setIfInBounds_toArray, List.set_cons_zero, List.set_cons_succ, i64_w, i32_w]
    rfl
   refine take_ (i := 7) (N := some 40) (v := ?_) (a' := ?_) #[tt, tt, tt, tt, tt, tt, tt, tt, ff, ff, ff, ff, ff, ff, ff] rfl rfl (take_ofW HT_.out HW_.out (by kernel_rfl)) (fun _ _ _ h => h) (Or.inl ⟨by rfl, ?_⟩) hHeld ?_ ?_
   rotate_left
   ·
    rintro w' ⟨s0, s1, s2, s3⟩
    go_simp
    with_reducible rfl
   rotate_left
   ·
    simp only [Act.put, List.setIfInBounds_toArray, List.set_cons_zero, List.set_cons_succ, i64_w, i32_w]
    rfl
   refine one_ (i := 8) (N := some 41) #[tt, tt, tt, tt, tt, tt, tt, tt, tt, ff, ff, ff, ff, ff, ff] rfl rfl (one_of HT_.out (by kernel_rfl)) (by decide) (fun K hK => ?_)
   refine goes_ Tryz.func16 (by kernel_rfl) rfl #[.slice A0_3 l0_3.length c0_3] (by rfl) rfl rfl xS ?_
   with_reducible refine (armadalaw18_own.calls kj2 _ _ l0_3 t110 _ ?side1 ?side2 A17.out).mono ?_
   (case side1 => repeat (first | exact (Kd.C_below HR0_3.out HB.out) | (with_reducible refine Kd.C_alloc ?_ _) | (with_reducible refine Kd.C_drewN ?_ _) | (with_reducible refine Kd.C_drew ?_)))
   (case side2 => exact HC0_3.out)
   rintro e w27 ⟨v111, rfl, ho0, hb⟩
   refine ⟨_, rfl, ?_⟩
   have n0_ := Aside0.mk (Kd.R_below (by (with_reducible repeat (first | apply Kd.R_alloc | apply Kd.R_drewN | apply Kd.R_drew)); exact HO109.out) hb)
   have n1_ := Aside0.mk (Kd.R_lower ho0 (below_size xB))
   have n2_ := Aside0.mk (blk_below (g := gb101) (o := .cells #[.slice A0_0 l0_0.length c0_0, .slice A0_1 l0_1.length c0_1, .slice A0_2 l0_2.length c0_2, .slice A0_3 l0_3.length c0_3] 42 (0, 0)) xK hb)
   have n3_ := Aside0.mk (below_step xB hb)
   clear HO109
   clear BK101
   clear HB
   have HO109 := n0_
   have HO112 := n1_
   have BK101 := n2_
   have HB := n3_
   clear n0_ n1_ n2_ n3_
   (try clear hb)
   (try clear hb2)
   (try clear hk)
   (try clear hi)
   (try clear ho0)
   obtain ⟨Ao28, co28, eo28⟩ := Kd.R_slice HO112.out
   (first | subst eo28 | (injection eo28 with f1_ f2_ f3_; have f4_ := f1_.symm; have f5_ := f3_.symm; clear f1_ f2_ f3_; subst f4_; subst f5_))
   refine hK.out _ _ ⟨(blk_cell BK101.out 0).trans rfl, (blk_cell BK101.out 1).trans rfl, (blk_cell BK101.out 2).trans rfl, (blk_cell BK101.out 3).trans rfl⟩ (fun hHeld => ?_)
   clear hK K
   refine norm_ (a' := ?_) ?_ ?_
   rotate_left
   ·
    show Act.put _ (some 41) _ = _
    simp only [Act.put, List.setIfInBounds_toArray, List.set_cons_zero, List.set_cons_succ, i64_w, i32_w]
    rfl
   refine one_ (i := 9) (N := some 42) #[tt, tt, tt, tt, tt, tt, tt, tt, tt, tt, ff, ff, ff, ff, ff] rfl rfl (one_of HT_.out (by kernel_rfl)) (by decide) (fun K hK => ?_)
   refine goes_ Tryz.func15 (by kernel_rfl) rfl #[.slice A0_0 l0_0.length c0_0, .slice A0_1 l0_1.length c0_1, .slice A0_2 l0_2.length c0_2, .slice Ao28 t110.length co28] (by rfl) rfl rfl xS ?_
   with_reducible refine (bump_Releases.calls _ _ l0_0 _ _ l0_1 _ _ l0_2 _ _ t110 t113 t114 _ ?side1 ?side2 ?side3 ?side4 ?side5 ?side6 ?side7 ?side8 ?side9 A18.out).mono ?_
   (case side1 => repeat (first | exact (Kd.C_below HR0_0.out HB.out) | (with_reducible refine Kd.C_alloc ?_ _) | (with_reducible refine Kd.C_drewN ?_ _) | (with_reducible refine Kd.C_drew ?_)))
   (case side2 => exact HC0_0.out)
   (case side3 => repeat (first | exact (Kd.C_below HR0_1.out HB.out) | (with_reducible refine Kd.C_alloc ?_ _) | (with_reducible refine Kd.C_drewN ?_ _) | (with_reducible refine Kd.C_drew ?_)))
   (case side4 => exact HC0_1.out)
   (case side5 => repeat (first | exact (Kd.C_below HR0_2.out HB.out) | (with_reducible refine Kd.C_alloc ?_ _) | (with_reducible refine Kd.C_drewN ?_ _) | (with_reducible refine Kd.C_drew ?_)))
   (case side6 => exact HC0_2.out)
   (case side7 => repeat (first | exact (Kd.R_reads' HO112.out).2.2 | (with_reducible refine Kd.C_alloc ?_ _) | (with_reducible refine Kd.C_drewN ?_ _) | (with_reducible refine Kd.C_drew ?_)))
   (case side8 => exact (Kd.R_reads' HO112.out).2.1)
   (case side9 => exact GW.below HGW.out xB)
   rintro e w29 ⟨v115, rfl, ho0, hb⟩
   refine ⟨_, rfl, ?_⟩
   have n0_ := Aside0.mk (Kd.R_below (by (with_reducible repeat (first | apply Kd.R_alloc | apply Kd.R_drewN | apply Kd.R_drew)); exact HO109.out) hb)
   have n1_ := Aside0.mk (Kd.R_below (by (with_reducible repeat (first | apply Kd.R_alloc | apply Kd.R_drewN | apply Kd.R_drew)); exact HO112.out) hb)
   have n2_ := Aside0.mk (Kd.R_lower ho0 (below_size xB))
   have n3_ := Aside0.mk (blk_below (g := gb101) (o := .cells #[.slice A0_0 l0_0.length c0_0, .slice A0_1 l0_1.length c0_1, .slice A0_2 l0_2.length c0_2, .slice A0_3 l0_3.length c0_3] 42 (0, 0)) xK hb)
   have n4_ := Aside0.mk (below_step xB hb)
   clear HO109
   clear HO112
   clear BK101
   clear HB
   have HO109 := n0_
   have HO112 := n1_
   have HO116 := n2_
   have BK101 := n3_
   have HB := n4_
   clear n0_ n1_ n2_ n3_ n4_
   (try clear hb)
   (try clear hb2)
   (try clear hk)
   (try clear hi)
   (try clear ho0)
   refine hK.out _ _ ⟨(blk_cell BK101.out 0).trans rfl, (blk_cell BK101.out 1).trans rfl, (blk_cell BK101.out 2).trans rfl, (blk_cell BK101.out 3).trans rfl⟩ (fun hHeld => ?_)
   clear hK K
   refine norm_ (a' := ?_) ?_ ?_
   rotate_left
   ·
    show Act.put _ (some 42) _ = _
    simp only [Act.put, List.setIfInBounds_toArray, List.set_cons_zero, List.set_cons_succ, i64_w, i32_w]
    rfl
   refine pure_ (i := 10) (N := some 32) (v := ?_) (a' := ?_) #[tt, tt, tt, tt, tt, tt, tt, tt, tt, tt, tt, ff, ff, ff, ff] rfl rfl (any_of HT_.out (by kernel_rfl)) (fun _ _ _ h => h) (Or.inl ⟨by rfl, ?_⟩) ?_ ?_
   rotate_left
   ·
    intro w'
    go_simp
    with_reducible rfl
   rotate_left
   ·
    simp only [Act.put, List.setIfInBounds_toArray, List.set_cons_zero, List.set_cons_succ, i64_w, i32_w]
    rfl
   refine pure_ (i := 11) (N := some 43) (v := ?_) (a' := ?_) #[tt, tt, tt, tt, tt, tt, tt, tt, tt, tt, tt, tt, ff, ff, ff] rfl rfl (any_of HT_.out (by kernel_rfl)) (fun _ _ _ h => h) (Or.inl ⟨by rfl, ?_⟩) ?_ ?_
   rotate_left
   ·
    intro w'
    go_simp
    with_reducible rfl
   rotate_left
   ·
    simp only [Act.put, List.setIfInBounds_toArray, List.set_cons_zero, List.set_cons_succ, i64_w, i32_w]
    rfl
   refine pure_ (i := 12) (N := some 44) (v := ?_) (a' := ?_) #[tt, tt, tt, tt, tt, tt, tt, tt, tt, tt, tt, tt, tt, ff, ff] rfl rfl (any_of HT_.out (by kernel_rfl)) (fun _ _ _ h => h) (Or.inl ⟨by rfl, ?_⟩) ?_ ?_
   rotate_left
   ·
    intro w'
    go_simp
    with_reducible rfl
   rotate_left
   ·
    simp only [Act.put, List.setIfInBounds_toArray, List.set_cons_zero, List.set_cons_succ, i64_w, i32_w]
    rfl
   refine pure_ (i := 13) (N := some 6) (v := ?_) (a' := ?_) #[tt, tt, tt, tt, tt, tt, tt, tt, tt, tt, tt, tt, tt, tt, ff] rfl rfl (any_of HT_.out (by kernel_rfl)) (fun _ _ _ h => h) (Or.inl ⟨by rfl, ?_⟩) ?_ ?_
   rotate_left
   ·
    intro w'
    go_simp
    with_reducible rfl
   rotate_left
   ·
    simp only [Act.put, List.setIfInBounds_toArray, List.set_cons_zero, List.set_cons_succ, i64_w, i32_w]
    rfl
   refine pure_ (i := 14) (N := some 7) (v := ?_) (a' := ?_) #[tt, tt, tt, tt, tt, tt, tt, tt, tt, tt, tt, tt, tt, tt, tt] rfl rfl (any_of HT_.out (by kernel_rfl)) (fun _ _ _ h => h) (Or.inl ⟨by rfl, ?_⟩) ?_ ?_
   rotate_left
   ·
    intro w'
    go_simp
    with_reducible rfl
   rotate_left
   ·
    simp only [Act.put, List.setIfInBounds_toArray, List.set_cons_zero, List.set_cons_succ, i64_w, i32_w]
    rfl
   refine done_ (done_of HT_.out (by kernel_rfl)) ?_
   try go_wp2
   have n0_ := Aside0.mk (Kd.R_drew HO109.out)
   have n1_ := Aside0.mk (Kd.R_drew HO112.out)
   have n2_ := Aside0.mk (Kd.R_drew HO116.out)
   have n3_ := Aside0.mk (blk_drew BK101.out)
   have n4_ := Aside0.mk (below_drew1 HB.out)
   clear HO109
   clear HO112
   clear HO116
   clear BK101
   clear HB
   have HO109 := n0_
   have HO112 := n1_
   have HO116 := n2_
   have BK101 := n3_
   have HB := n4_
   clear n0_ n1_ n2_ n3_ n4_
   refine start_ (n := 14) (S := fun w' => w'.cell? ⟨gb101, 0, none⟩ = some (.slice A0_0 l0_0.length c0_0) ∧ w'.cell? ⟨gb101, 1, none⟩ = some (.slice A0_1 l0_1.length c0_1) ∧ w'.cell? ⟨gb101, 2, none⟩ = some (.slice A0_2 l0_2.length c0_2) ∧ w'.cell? ⟨gb101, 3, none⟩ = some (.slice A0_3 l0_3.length c0_3)) (ds := []) #[ff, ff, ff, ff, ff, ff, ff, ff, ff, ff, ff, ff, ff, ff] (by kernel_rfl) rfl rfl ⟨(blk_cell BK101.out 0).trans rfl, (blk_cell BK101.out 1).trans rfl, (blk_cell BK101.out 2).trans rfl, (blk_cell BK101.out 3).trans rfl⟩ (fun hHeld => ?_); refine with_tabW armadalaw18_BumpMore.tab7 armadalaw18_BumpMore.bits7 (fun HT_ HW_ => ?_)
   generalize w29.drew = w30 at HO109 HO112 HO116 BK101 HB hHeld ⊢
   refine pure_ (i := 0) (N := some 46) (v := ?_) (a' := ?_) #[tt, ff, ff, ff, ff, ff, ff, ff, ff, ff, ff, ff, ff, ff] rfl rfl (any_of HT_.out (by kernel_rfl)) (fun _ _ _ h => h) (Or.inl ⟨by rfl, ?_⟩) ?_ ?_
   rotate_left
   ·
    intro w'
    go_simp
    with_reducible rfl
   rotate_left
   ·
    simp only [Act.put, List.setIfInBounds_toArray, List.set_cons_zero, List.set_cons_succ, i64_w, i32_w]
    rfl
   refine pure_ (i := 2) (N := some 48) (v := ?_) (a' := ?_) #[tt, ff, tt, ff, ff, ff, ff, ff, ff, ff, ff, ff, ff, ff] rfl rfl (any_of HT_.out (by kernel_rfl)) (fun _ _ _ h => h) (Or.inl ⟨by rfl, ?_⟩) ?_ ?_
   rotate_left
   ·
    intro w'
    go_simp
    with_reducible rfl
   rotate_left
   ·
    simp only [Act.put, List.setIfInBounds_toArray, List.set_cons_zero, List.set_cons_succ, i64_w, i32_w]
    rfl
   refine pure_ (i := 4) (N := some 50) (v := ?_) (a' := ?_) #[tt, ff, tt, ff, tt, ff, ff, ff, ff, ff, ff, ff, ff, ff] rfl rfl (any_of HT_.out (by kernel_rfl)) (fun _ _ _ h => h) (Or.inl ⟨by rfl, ?_⟩) ?_ ?_
   rotate_left
   ·
    intro w'
    go_simp
    with_reducible rfl
   rotate_left
   ·
    simp only [Act.put, List.setIfInBounds_toArray, List.set_cons_zero, List.set_cons_succ, i64_w, i32_w]
    rfl
   refine pure_ (i := 5) (N := some 51) (v := ?_) (a' := ?_) #[tt, ff, tt, ff, tt, tt, ff, ff, ff, ff, ff, ff, ff, ff] rfl rfl (any_of HT_.out (by kernel_rfl)) (fun _ _ _ h => h) (Or.inl ⟨by rfl, ?_⟩) ?_ ?_
   rotate_left
   ·
    intro w'
    go_simp
    with_reducible rfl
   rotate_left
   ·
    simp only [Act.put, List.setIfInBounds_toArray, List.set_cons_zero, List.set_cons_succ, i64_w, i32_w]
    rfl
   refine take_ (i := 1) (N := some 47) (v := ?_) (a' := ?_) #[tt, tt, tt, ff, tt, tt, ff, ff, ff, ff, ff, ff, ff, ff] rfl rfl (take_ofW HT_.out HW_.out (by kernel_rfl)) (fun _ _ _ h => h) (Or.inl ⟨by rfl, ?_⟩) hHeld ?_ ?_
   rotate_left
   ·
    rintro w' ⟨s0, s1, s2, s3⟩
    go_simp
    with_reducible rfl
   rotate_left
   ·
    simp only [Act.put, List.setIfInBounds_toArray, List.set_cons_zero, List.set_cons_succ, i64_w, i32_w]
    rfl
   refine take_ (i := 3) (N := some 49) (v := ?_) (a' := ?_) #[tt, tt, tt, tt, tt, tt, ff, ff, ff, ff, ff, ff, ff, ff] rfl rfl (take_ofW HT_.out HW_.out (by kernel_rfl)) (fun _ _ _ h => h) (Or.inl ⟨by rfl, ?_⟩) hHeld ?_ ?_
   rotate_left
   ·
    rintro w' ⟨s0, s1, s2, s3⟩
    go_simp
    with_reducible rfl
   rotate_left
   ·
    simp only [Act.put, List.setIfInBounds_toArray, List.set_cons_zero, List.set_cons_succ, i64_w, i32_w]
    rfl
   refine take_ (i := 6) (N := some 52) (v := ?_) (a' := ?_) #[tt, tt, tt, tt, tt, tt, tt, ff, ff, ff, ff, ff, ff, ff] rfl rfl (take_ofW HT_.out HW_.out (by kernel_rfl)) (fun _ _ _ h => h) (Or.inl ⟨by rfl, ?_⟩) hHeld ?_ ?_
   rotate_left
   ·
    rintro w' ⟨s0, s1, s2, s3⟩
    go_simp
    with_reducible rfl
   rotate_left
   ·
    simp only [Act.put, List.setIfInBounds_toArray, List.set_cons_zero, List.set_cons_succ, i64_w, i32_w]
    rfl
   refine one_ (i := 7) (N := some 53) #[tt, tt, tt, tt, tt, tt, tt, tt, ff, ff, ff, ff, ff, ff] rfl rfl (one_of HT_.out (by kernel_rfl)) (by decide) (fun K hK => ?_)
   refine goes_ Tryz.func16 (by kernel_rfl) rfl #[.slice A0_3 l0_3.length c0_3] (by rfl) rfl rfl xS ?_
   with_reducible refine (armadalaw18_own.calls kj2 _ _ l0_3 t117 _ ?side1 ?side2 A19.out).mono ?_
   (case side1 => repeat (first | exact (Kd.C_below HR0_3.out HB.out) | (with_reducible refine Kd.C_alloc ?_ _) | (with_reducible refine Kd.C_drewN ?_ _) | (with_reducible refine Kd.C_drew ?_)))
   (case side2 => exact HC0_3.out)
   rintro e w31 ⟨v118, rfl, ho0, hb⟩
   refine ⟨_, rfl, ?_⟩
   have n0_ := Aside0.mk (Kd.R_below (by (with_reducible repeat (first | apply Kd.R_alloc | apply Kd.R_drewN | apply Kd.R_drew)); exact HO109.out) hb)
   have n1_ := Aside0.mk (Kd.R_elder' (by (with_reducible repeat (first | apply Kd.R_alloc | apply Kd.R_drewN | apply Kd.R_drew)); exact HO112.out) (Kd.R_base ho0) hb)
   have n2_ := Aside0.mk (Kd.R_below (by (with_reducible repeat (first | apply Kd.R_alloc | apply Kd.R_drewN | apply Kd.R_drew)); exact HO116.out) hb)
   have n3_ := Aside0.mk (Kd.R_lower (Kd.R_new' ho0 (Kd.R_lt (by (with_reducible repeat (first | apply Kd.R_alloc | apply Kd.R_drewN | apply Kd.R_drew)); exact HO112.out))) (below_size xB))
   have n4_ := Aside0.mk (blk_below (g := gb101) (o := .cells #[.slice A0_0 l0_0.length c0_0, .slice A0_1 l0_1.length c0_1, .slice A0_2 l0_2.length c0_2, .slice A0_3 l0_3.length c0_3] 42 (0, 0)) xK hb)
   have n5_ := Aside0.mk (below_step xB hb)
   clear HO109
   clear HO112
   clear HO116
   clear BK101
   clear HB
   have HO109 := n0_
   have HO112 := n1_
   have HO116 := n2_
   have HO119 := n3_
   have BK101 := n4_
   have HB := n5_
   clear n0_ n1_ n2_ n3_ n4_ n5_
   (try clear hb)
   (try clear hb2)
   (try clear hk)
   (try clear hi)
   (try clear ho0)
   obtain ⟨Ao32, co32, eo32⟩ := Kd.R_slice HO109.out
   (first | subst eo32 | (injection eo32 with f1_ f2_ f3_; have f4_ := f1_.symm; have f5_ := f3_.symm; clear f1_ f2_ f3_; subst f4_; subst f5_))
   obtain ⟨Ao33, co33, eo33⟩ := Kd.R_slice HO119.out
   (first | subst eo33 | (injection eo33 with f1_ f2_ f3_; have f4_ := f1_.symm; have f5_ := f3_.symm; clear f1_ f2_ f3_; subst f4_; subst f5_))
   refine hK.out _ _ ⟨(blk_cell BK101.out 0).trans rfl, (blk_cell BK101.out 1).trans rfl, (blk_cell BK101.out 2).trans rfl, (blk_cell BK101.out 3).trans rfl⟩ (fun hHeld => ?_)
   clear hK K
   refine norm_ (a' := ?_) ?_ ?_
   rotate_left
   ·
    show Act.put _ (some 53) _ = _
    simp only [Act.put, List.setIfInBounds_toArray, List.set_cons_zero, List.set_cons_succ, i64_w, i32_w]
    rfl
   refine one_ (i := 8) (N := some 54) #[tt, tt, tt, tt, tt, tt, tt, tt, tt, ff, ff, ff, ff, ff] rfl rfl (one_of HT_.out (by kernel_rfl)) (by decide) (fun K hK => ?_)
   refine goes_ Tryz.func15 (by kernel_rfl) rfl #[.slice A0_0 l0_0.length c0_0, .slice A0_1 l0_1.length c0_1, .slice Ao32 y107.length co32, .slice Ao33 t117.length co33] (by rfl) rfl rfl xS ?_
   with_reducible refine (bump_Releases.calls _ _ l0_0 _ _ l0_1 _ _ y107 _ _ t117 t120 t121 _ ?side1 ?side2 ?side3 ?side4 ?side5 ?side6 ?side7 ?side8 ?side9 A20.out).mono ?_
   (case side1 => repeat (first | exact (Kd.C_below HR0_0.out HB.out) | (with_reducible refine Kd.C_alloc ?_ _) | (with_reducible refine Kd.C_drewN ?_ _) | (with_reducible refine Kd.C_drew ?_)))
   (case side2 => exact HC0_0.out)
   (case side3 => repeat (first | exact (Kd.C_below HR0_1.out HB.out) | (with_reducible refine Kd.C_alloc ?_ _) | (with_reducible refine Kd.C_drewN ?_ _) | (with_reducible refine Kd.C_drew ?_)))
   (case side4 => exact HC0_1.out)
   (case side5 => repeat (first | exact (Kd.R_reads' HO109.out).2.2 | (with_reducible refine Kd.C_alloc ?_ _) | (with_reducible refine Kd.C_drewN ?_ _) | (with_reducible refine Kd.C_drew ?_)))
   (case side6 => exact (Kd.R_reads' HO109.out).2.1)
   (case side7 => repeat (first | exact (Kd.R_reads' HO119.out).2.2 | (with_reducible refine Kd.C_alloc ?_ _) | (with_reducible refine Kd.C_drewN ?_ _) | (with_reducible refine Kd.C_drew ?_)))
   (case side8 => exact (Kd.R_reads' HO119.out).2.1)
   (case side9 => exact GW.below HGW.out xB)
   rintro e w34 ⟨v122, rfl, ho0, hb⟩
   refine ⟨_, rfl, ?_⟩
   have n0_ := Aside0.mk (Kd.R_below (by (with_reducible repeat (first | apply Kd.R_alloc | apply Kd.R_drewN | apply Kd.R_drew)); exact HO109.out) hb)
   have n1_ := Aside0.mk (Kd.R_below (by (with_reducible repeat (first | apply Kd.R_alloc | apply Kd.R_drewN | apply Kd.R_drew)); exact HO112.out) hb)
   have n2_ := Aside0.mk (Kd.R_elder' (by (with_reducible repeat (first | apply Kd.R_alloc | apply Kd.R_drewN | apply Kd.R_drew)); exact HO116.out) (Kd.R_base ho0) hb)
   have n3_ := Aside0.mk (Kd.R_below (by (with_reducible repeat (first | apply Kd.R_alloc | apply Kd.R_drewN | apply Kd.R_drew)); exact HO119.out) hb)
   have n4_ := Aside0.mk (Kd.R_lower (Kd.R_new' ho0 (Kd.R_lt (by (with_reducible repeat (first | apply Kd.R_alloc | apply Kd.R_drewN | apply Kd.R_drew)); exact HO116.out))) (below_size xB))
   have n5_ := Aside0.mk (blk_below (g := gb101) (o := .cells #[.slice A0_0 l0_0.length c0_0, .slice A0_1 l0_1.length c0_1, .slice A0_2 l0_2.length c0_2, .slice A0_3 l0_3.length c0_3] 42 (0, 0)) xK hb)
   have n6_ := Aside0.mk (below_step xB hb)
   clear HO109
   clear HO112
   clear HO116
   clear HO119
   clear BK101
   clear HB
   have HO109 := n0_
   have HO112 := n1_
   have HO116 := n2_
   have HO119 := n3_
   have HO123 := n4_
   have BK101 := n5_
   have HB := n6_
   clear n0_ n1_ n2_ n3_ n4_ n5_ n6_
   (try clear hb)
   (try clear hb2)
   (try clear hk)
   (try clear hi)
   (try clear ho0)
   refine hK.out _ _ ⟨(blk_cell BK101.out 0).trans rfl, (blk_cell BK101.out 1).trans rfl, (blk_cell BK101.out 2).trans rfl, (blk_cell BK101.out 3).trans rfl⟩ (fun hHeld => ?_)
   clear hK K
   refine norm_ (a' := ?_) ?_ ?_
   rotate_left
   ·
    show Act.put _ (some 54) _ = _
    simp only [Act.put, List.setIfInBounds_toArray, List.set_cons_zero, List.set_cons_succ, i64_w, i32_w]
    rfl
   refine pure_ (i := 9) (N := some 45) (v := ?_) (a' := ?_) #[tt, tt, tt, tt, tt, tt, tt, tt, tt, tt, ff, ff, ff, ff] rfl rfl (any_of HT_.out (by kernel_rfl)) (fun _ _ _ h => h) (Or.inl ⟨by rfl, ?_⟩) ?_ ?_
   rotate_left
   ·
    intro w'
    go_simp
    with_reducible rfl
   rotate_left
   ·
    simp only [Act.put, List.setIfInBounds_toArray, List.set_cons_zero, List.set_cons_succ, i64_w, i32_w]
    rfl
   refine pure_ (i := 10) (N := some 55) (v := ?_) (a' := ?_) #[tt, tt, tt, tt, tt, tt, tt, tt, tt, tt, tt, ff, ff, ff] rfl rfl (any_of HT_.out (by kernel_rfl)) (fun _ _ _ h => h) (Or.inl ⟨by rfl, ?_⟩) ?_ ?_
   rotate_left
   ·
    intro w'
    go_simp
    with_reducible rfl
   rotate_left
   ·
    simp only [Act.put, List.setIfInBounds_toArray, List.set_cons_zero, List.set_cons_succ, i64_w, i32_w]
    rfl
   refine pure_ (i := 11) (N := some 56) (v := ?_) (a' := ?_) #[tt, tt, tt, tt, tt, tt, tt, tt, tt, tt, tt, tt, ff, ff] rfl rfl (any_of HT_.out (by kernel_rfl)) (fun _ _ _ h => h) (Or.inl ⟨by rfl, ?_⟩) ?_ ?_
   rotate_left
   ·
    intro w'
    go_simp
    with_reducible rfl
   rotate_left
   ·
    simp only [Act.put, List.setIfInBounds_toArray, List.set_cons_zero, List.set_cons_succ, i64_w, i32_w]
    rfl
   refine pure_ (i := 12) (N := some 8) (v := ?_) (a' := ?_) #[tt, tt, tt, tt, tt, tt, tt, tt, tt, tt, tt, tt, tt, ff] rfl rfl (any_of HT_.out (by kernel_rfl)) (fun _ _ _ h => h) (Or.inl ⟨by rfl, ?_⟩) ?_ ?_
   rotate_left
   ·
    intro w'
    go_simp
    with_reducible rfl
   rotate_left
   ·
    simp only [Act.put, List.setIfInBounds_toArray, List.set_cons_zero, List.set_cons_succ, i64_w, i32_w]
    rfl
   refine pure_ (i := 13) (N := some 9) (v := ?_) (a' := ?_) #[tt, tt, tt, tt, tt, tt, tt, tt, tt, tt, tt, tt, tt, tt] rfl rfl (any_of HT_.out (by kernel_rfl)) (fun _ _ _ h => h) (Or.inl ⟨by rfl, ?_⟩) ?_ ?_
   rotate_left
   ·
    intro w'
    go_simp
    with_reducible rfl
   rotate_left
   ·
    simp only [Act.put, List.setIfInBounds_toArray, List.set_cons_zero, List.set_cons_succ, i64_w, i32_w]
    rfl
   refine done_ (done_of HT_.out (by kernel_rfl)) ?_
   have hcz35_0 : w34.cell? ⟨gb101, 0, none⟩ = some (.slice A0_0 l0_0.length c0_0) := (blk_cell BK101.out 0).trans rfl
   have hcz35_1 : w34.cell? ⟨gb101, 1, none⟩ = some (.slice A0_1 l0_1.length c0_1) := (blk_cell BK101.out 1).trans rfl
   have hcz35_2 : w34.cell? ⟨gb101, 2, none⟩ = some (.slice A0_2 l0_2.length c0_2) := (blk_cell BK101.out 2).trans rfl
   have hcz35_3 : w34.cell? ⟨gb101, 3, none⟩ = some (.slice A0_3 l0_3.length c0_3) := (blk_cell BK101.out 3).trans rfl
   have hfz35_0 := blk_frozen BK101.out 0
   have hfz35_1 := blk_frozen BK101.out 1
   have hfz35_2 := blk_frozen BK101.out 2
   have hfz35_3 := blk_frozen BK101.out 3
   go_upto_region 9 with (first | ((with_reducible refine gate_callee (f := 15) rfl ?_); refine goesL_ (some 62) rfl rfl Tryz.func15 (by kernel_rfl) rfl #[.slice A0_0 l0_0.length c0_0, .slice A0_1 l0_1.length c0_1, .slice none 0 0, .slice none 0 0] rfl xS ?_; (refine (bump_Releases.calls _ _ l0_0 _ _ l0_1 _ _ ([] : List Int) _ _ ([] : List (S72)) t124 t125 _ ?side1 ?side2 ?side3 ?side4 ?side5 ?side6 ?side7 ?side8 ?side9 A21.out).mono ?_); (case side1 => repeat (first | exact (Kd.C_below HR0_0.out HB.out) | (with_reducible refine Kd.C_alloc ?_ _) | (with_reducible refine Kd.C_drewN ?_ _) | (with_reducible refine Kd.C_drew ?_))); (case side2 => exact HC0_0.out); (case side3 => repeat (first | exact (Kd.C_below HR0_1.out HB.out) | (with_reducible refine Kd.C_alloc ?_ _) | (with_reducible refine Kd.C_drewN ?_ _) | (with_reducible refine Kd.C_drew ?_))); (case side4 => exact HC0_1.out); (case side5 => exact Kd.C_nil _ _); (case side6 => exact Nat.le_refl _); (case side7 => exact Kd.C_nil _ _); (case side8 => exact Nat.le_refl _); (case side9 => exact GW.below HGW.out xB); rintro e w36 ⟨v126, rfl, ho0, hb⟩; refine ⟨_, rfl, ?_⟩; replace HO109 := Aside0.mk (Kd.R_below (by (with_reducible repeat (first | apply Kd.R_alloc | apply Kd.R_drewN | apply Kd.R_drew)); exact HO109.out) hb); replace HO112 := Aside0.mk (Kd.R_below (by (with_reducible repeat (first | apply Kd.R_alloc | apply Kd.R_drewN | apply Kd.R_drew)); exact HO112.out) hb); replace HO119 := Aside0.mk (Kd.R_below (by (with_reducible repeat (first | apply Kd.R_alloc | apply Kd.R_drewN | apply Kd.R_drew)); exact HO119.out) hb); have HO127 := Aside0.mk (Kd.R_lower (Kd.R_new' (Kd.R_new' ho0 (Kd.R_lt (by (with_reducible repeat (first | apply Kd.R_alloc | apply Kd.R_drewN | apply Kd.R_drew)); exact HO116.out))) (Kd.R_lt (by (with_reducible repeat (first | apply Kd.R_alloc | apply Kd.R_drewN | apply Kd.R_drew)); exact HO123.out))) (below_size xB)); replace HO116 := Aside0.mk (Kd.R_elder' (by (with_reducible repeat (first | apply Kd.R_alloc | apply Kd.R_drewN | apply Kd.R_drew)); exact HO116.out) (Kd.R_base ho0) hb); replace HO123 := Aside0.mk (Kd.R_elder' (by (with_reducible repeat (first | apply Kd.R_alloc | apply Kd.R_drewN | apply Kd.R_drew)); exact HO123.out) (Kd.R_base ho0) hb); replace BK101 := Aside0.mk (blk_below (g := gb101) (o := .cells #[.slice A0_0 l0_0.length c0_0, .slice A0_1 l0_1.length c0_1, .slice A0_2 l0_2.length c0_2, .slice A0_3 l0_3.length c0_3] 42 (0, 0)) xK hb); replace HB := Aside0.mk (below_step xB hb); (try clear hb); (try clear hb2); (try clear hk); (try clear hi); (try clear ho0)))
   (try simp only [Act.put, List.setIfInBounds_toArray, List.set_cons_zero, List.set_cons_succ])
   go_cut [75] (fun v75 wc => ∃ (kq : Nat) (x75_21 : Bool), v75 = .bool x75_21 ∧ Aside0 (armadalaw18_BumpMore.j1 kq t113 t114 t120 t121 x75_21 = some r) ∧ Aside0 (kq ≤ kj2) ∧ Aside0 (Kd.R k30 30 wc w.heap.size (fun k_ => some k_ ≠ (v122 : Value).ownBlock) v115 t113) ∧ Aside0 (Kd.R k30 30 wc w.heap.size (fun k_ => some k_ ≠ (v115 : Value).ownBlock) v122 t120) ∧ Aside0 (wc.heap[gb101]? = some (.cells #[(.slice A0_0 l0_0.length c0_0), (.slice A0_1 l0_1.length c0_1), (.slice A0_2 l0_2.length c0_2), (.slice A0_3 l0_3.length c0_3)] 42 (0, 0))) ∧ Aside0 (Below w.heap.size w wc))
   case first =>
    have H := HC22.out
    clear HC22
    by_cases c37 : (t124.length : Int) = 0
    ·
     rw [if_pos c37] at H
     have c37b0 := beq_iff_eq.mpr c37
     have c37b1 := bne_eq_false_iff_eq.mpr c37
     clear c37
     (first | rw [c37b0] | (simp only [i64_w, i32_w]; rw [c37b0]) | skip)
     by_cases c38 : t125 = 0
     ·
      rw [if_pos c38] at H
      have c38b0 := beq_iff_eq.mpr c38
      have c38b1 := bne_eq_false_iff_eq.mpr c38
      clear c38
      have H' := Aside0.mk H
      clear H
      obtain ⟨Ao39, co39, eo39⟩ := Kd.R_slice HO127.out
      subst eo39
      go_wp2
      go_meet
      case rel => exact ⟨_, (false), xR, H', ⟨by have := HJ2.out; first | omega | exact Nat.le_refl _⟩, ⟨by (with_reducible repeat (first | apply Kd.R_alloc | apply Kd.R_drewN | apply Kd.R_drew)); exact Kd.R_mono HO116.out (fun _ hk => hk.1.2)⟩, ⟨by (with_reducible repeat (first | apply Kd.R_alloc | apply Kd.R_drewN | apply Kd.R_drew)); exact Kd.R_mono HO123.out (fun _ hk => hk.1.2)⟩, ⟨by (with_reducible repeat (first | refine blk_drewN ?_ _ | refine blk_drew ?_ | refine blk_alloc ?_ _)); exact BK101.out⟩, ⟨xB⟩⟩
     rw [if_neg c38] at H
     have c38b0 := beq_eq_false_iff_ne.mpr c38
     have c38b1 := bne_iff_ne.mpr c38
     have H' := Aside0.mk H
     clear H
     obtain ⟨Ao40, co40, eo40⟩ := Kd.R_slice HO127.out
     subst eo40
     go_wp2
     go_meet
     case rel => exact ⟨_, ((t114 == 0)), xR, H', ⟨by have := HJ2.out; first | omega | exact Nat.le_refl _⟩, ⟨by (with_reducible repeat (first | apply Kd.R_alloc | apply Kd.R_drewN | apply Kd.R_drew)); exact Kd.R_mono HO116.out (fun _ hk => hk.1.2)⟩, ⟨by (with_reducible repeat (first | apply Kd.R_alloc | apply Kd.R_drewN | apply Kd.R_drew)); exact Kd.R_mono HO123.out (fun _ hk => hk.1.2)⟩, ⟨by (with_reducible repeat (first | refine blk_drewN ?_ _ | refine blk_drew ?_ | refine blk_alloc ?_ _)); exact BK101.out⟩, ⟨xB⟩⟩
    rw [if_neg c37] at H
    have c37b0 := beq_eq_false_iff_ne.mpr c37
    have c37b1 := bne_iff_ne.mpr c37
    have c37b2 : ¬ (t124 = []) := fun h_ => c37 (by rw [h_]; rfl)
    (first | rw [c37b0] | (simp only [i64_w, i32_w]; rw [c37b0]) | skip)
    have H' := Aside0.mk H
    clear H
    obtain ⟨Ao41, co41, eo41⟩ := Kd.R_slice HO127.out
    subst eo41
    go_wp2
    go_meet
    case rel => exact ⟨_, (true), xR, H', ⟨by have := HJ2.out; first | omega | exact Nat.le_refl _⟩, ⟨by (with_reducible repeat (first | apply Kd.R_alloc | apply Kd.R_drewN | apply Kd.R_drew)); exact Kd.R_mono HO116.out (fun _ hk => hk.1.2)⟩, ⟨by (with_reducible repeat (first | apply Kd.R_alloc | apply Kd.R_drewN | apply Kd.R_drew)); exact Kd.R_mono HO123.out (fun _ hk => hk.1.2)⟩, ⟨by (with_reducible repeat (first | refine blk_drewN ?_ _ | refine blk_drew ?_ | refine blk_alloc ?_ _)); exact BK101.out⟩, ⟨xB⟩⟩
   case rest =>
    clear HC22
    try clear c1
    try clear p2
    try clear c3
    try clear c6
    try clear c9
    try clear c12
    try clear c14
    try clear c15
    try clear c16
    try clear c37
    try clear c37b0
    try clear c37b1
    try clear c37b2
    try clear c38
    try clear c38b0
    try clear c38b1
    try clear hcz10_0
    try clear hcz10_1
    try clear hcz10_2
    try clear hcz10_3
    try clear hcz23_0
    try clear hcz23_1
    try clear hcz23_2
    try clear hcz23_3
    try clear hcz35_0
    try clear hcz35_1
    try clear hcz35_2
    try clear hcz35_3
    try clear hcz7_0
    try clear hcz7_1
    try clear hcz7_2
    try clear hcz7_3
    try clear hcz9_0
    try clear hcz9_1
    try clear hcz9_2
    try clear hcz9_3
    try clear hfz10_0
    try clear hfz10_1
    try clear hfz10_2
    try clear hfz10_3
    try clear hfz23_0
    try clear hfz23_1
    try clear hfz23_2
    try clear hfz23_3
    try clear hfz35_0
    try clear hfz35_1
    try clear hfz35_2
    try clear hfz35_3
    try clear hfz7_0
    try clear hfz7_1
    try clear hfz7_2
    try clear hfz7_3
    try clear hfz9_0
    try clear hfz9_1
    try clear hfz9_2
    try clear hfz9_3
    try clear p2
    obtain ⟨kq, x75_21, rfl, HA, HJ21, HO_6, HO_8, BK101, HB⟩ := hcut
    cases kq with
    | zero => exact absurd HA.out (by simp [armadalaw18_BumpMore.j1])
    | succ kj21 =>
     have H := HA.out
     clear HA
     simp only [armadalaw18_BumpMore.j1] at H
     by_cases c42 : x75_21 = true
     ·
      subst c42
      rw [if_pos rfl] at H
      exact absurd ((Option.some.inj H).trans HTRU_.out) (by decide)
     replace c42 := Bool.eq_false_iff.mpr c42
     subst c42
     rw [if_neg (show ¬ (false = true) by decide)] at H
     by_cases c43 : t121 = 0
     ·
      rw [if_pos c43] at H
      have c43b0 := beq_iff_eq.mpr c43
      have c43b1 := bne_eq_false_iff_eq.mpr c43
      clear c43
      have HC44 := Aside0.mk H
      clear H
      go_upto_region 13 with (fail)
      go_cut [92] (fun v92 wc => ∃ (kq : Nat) (x92_43 : Bool), v92 = .bool x92_43 ∧ Aside0 (armadalaw18_BumpMore.j2 kq t113 t120 x92_43 = some r) ∧ Aside0 (kq ≤ kj21) ∧ Aside0 (Kd.R k30 30 wc w.heap.size (fun k_ => some k_ ≠ (v122 : Value).ownBlock) v115 t113) ∧ Aside0 (Kd.R k30 30 wc w.heap.size (fun k_ => some k_ ≠ (v115 : Value).ownBlock) v122 t120) ∧ Aside0 (wc.heap[gb101]? = some (.cells #[(.slice A0_0 l0_0.length c0_0), (.slice A0_1 l0_1.length c0_1), (.slice A0_2 l0_2.length c0_2), (.slice A0_3 l0_3.length c0_3)] 42 (0, 0))) ∧ Aside0 (Below w.heap.size w wc))
      case first =>
       have H := HC44.out
       clear HC44
       by_cases c45 : t114 = 0
       ·
        rw [if_pos c45] at H
        have c45b0 := beq_iff_eq.mpr c45
        have c45b1 := bne_eq_false_iff_eq.mpr c45
        clear c45
        (first | rw [c45b0] | (simp only [i64_w, i32_w]; rw [c45b0]) | skip)
        have H' := Aside0.mk H
        clear H
        obtain ⟨Ao46, co46, eo46⟩ := Kd.R_slice HO_6.out
        subst eo46
        obtain ⟨Ao47, co47, eo47⟩ := Kd.R_slice HO_8.out
        subst eo47
        go_wp2
        go_meet
        case rel => exact ⟨_, (decide ((t113.length : Int) > (t120.length : Int))), xR, H', ⟨by have := HJ2.out; have := HJ21.out; first | omega | exact Nat.le_refl _⟩, ⟨by (with_reducible repeat (first | apply Kd.R_alloc | apply Kd.R_drewN | apply Kd.R_drew)); exact HO_6.out⟩, ⟨by (with_reducible repeat (first | apply Kd.R_alloc | apply Kd.R_drewN | apply Kd.R_drew)); exact HO_8.out⟩, ⟨by (with_reducible repeat (first | refine blk_drewN ?_ _ | refine blk_drew ?_ | refine blk_alloc ?_ _)); exact BK101.out⟩, ⟨xB⟩⟩
       rw [if_neg c45] at H
       have c45b0 := beq_eq_false_iff_ne.mpr c45
       have c45b1 := bne_iff_ne.mpr c45
       (first | rw [c45b0] | (simp only [i64_w, i32_w]; rw [c45b0]) | skip)
       have H' := Aside0.mk H
       clear H
       go_wp2
       go_meet
       case rel => exact ⟨_, (true), xR, H', ⟨by have := HJ2.out; have := HJ21.out; first | omega | exact Nat.le_refl _⟩, ⟨by (with_reducible repeat (first | apply Kd.R_alloc | apply Kd.R_drewN | apply Kd.R_drew)); exact HO_6.out⟩, ⟨by (with_reducible repeat (first | apply Kd.R_alloc | apply Kd.R_drewN | apply Kd.R_drew)); exact HO_8.out⟩, ⟨by (with_reducible repeat (first | refine blk_drewN ?_ _ | refine blk_drew ?_ | refine blk_alloc ?_ _)); exact BK101.out⟩, ⟨xB⟩⟩
      case rest =>
       clear HC44
       try clear c1
       try clear p2
       try clear c3
       try clear c4
       try clear c6
       try clear c9
       try clear c12
       try clear c14
       try clear c15
       try clear c16
       try clear c37
       try clear c37b0
       try clear c37b1
       try clear c37b2
       try clear c38
       try clear c38b0
       try clear c38b1
       try clear c42
       try clear c43
       try clear c43b0
       try clear c43b1
       try clear c45
       try clear c45b0
       try clear c45b1
       try clear hcz10_0
       try clear hcz10_1
       try clear hcz10_2
       try clear hcz10_3
       try clear hcz23_0
       try clear hcz23_1
       try clear hcz23_2
       try clear hcz23_3
       try clear hcz35_0
       try clear hcz35_1
       try clear hcz35_2
       try clear hcz35_3
       try clear hcz7_0
       try clear hcz7_1
       try clear hcz7_2
       try clear hcz7_3
       try clear hcz9_0
       try clear hcz9_1
       try clear hcz9_2
       try clear hcz9_3
       try clear hfz10_0
       try clear hfz10_1
       try clear hfz10_2
       try clear hfz10_3
       try clear hfz23_0
       try clear hfz23_1
       try clear hfz23_2
       try clear hfz23_3
       try clear hfz35_0
       try clear hfz35_1
       try clear hfz35_2
       try clear hfz35_3
       try clear hfz7_0
       try clear hfz7_1
       try clear hfz7_2
       try clear hfz7_3
       try clear hfz9_0
       try clear hfz9_1
       try clear hfz9_2
       try clear hfz9_3
       try clear p2
       obtain ⟨kq, x92_43, rfl, HA, HJ43, HO_6, HO_8, BK101, HB⟩ := hcut
       cases kq with
       | zero => exact absurd HA.out (by simp [armadalaw18_BumpMore.j2])
       | succ kj43 =>
        have H := HA.out
        clear HA
        simp only [armadalaw18_BumpMore.j2] at H
        by_cases c48 : x92_43 = true
        ·
         subst c48
         rw [if_pos rfl] at H
         exact absurd ((Option.some.inj H).trans HTRU_.out) (by decide)
        replace c48 := Bool.eq_false_iff.mpr c48
        subst c48
        rw [if_neg (show ¬ (false = true) by decide)] at H
        have H' := Aside0.mk H
        clear H
        go_wp2
        go_loopg [12, 13] kj43 (fun kq v12 v13 w' => ∃ (x12_4 : Int) (x13_4 : Int), v12 = .int .i64 x12_4 ∧ v13 = .int .i64 x13_4 ∧ Aside0 (armadalaw18_BumpMore.l0 kq t113 t120 x12_4 x13_4 = some r) ∧ Aside0 (kq ≤ kj43) ∧ Aside0 (Kd.R k30 30 w' w.heap.size (fun k_ => some k_ ≠ (v122 : Value).ownBlock) v115 t113) ∧ Aside0 (Kd.R k30 30 w' w.heap.size (fun k_ => some k_ ≠ (v115 : Value).ownBlock) v122 t120) ∧ Aside0 (w'.heap[gb101]? = some (.cells #[(.slice A0_0 l0_0.length c0_0), (.slice A0_1 l0_1.length c0_1), (.slice A0_2 l0_2.length c0_2), (.slice A0_3 l0_3.length c0_3)] 42 (0, 0))) ∧ Aside0 (Below w.heap.size w w'))
        case atStart => exact ⟨(0), (0), xR, xR, H', ⟨Nat.le_refl _⟩, ⟨by (with_reducible repeat (first | apply Kd.R_alloc | apply Kd.R_drewN | apply Kd.R_drew)); exact HO_6.out⟩, ⟨by (with_reducible repeat (first | apply Kd.R_alloc | apply Kd.R_drewN | apply Kd.R_drew)); exact HO_8.out⟩, ⟨by (with_reducible repeat (first | refine blk_drewN ?_ _ | refine blk_drew ?_ | refine blk_alloc ?_ _)); exact BK101.out⟩, ⟨xB⟩⟩
        case round =>
         clear H'
         try clear c1
         try clear p2
         try clear c3
         try clear c4
         try clear c6
         try clear c9
         try clear c12
         try clear c14
         try clear c15
         try clear c16
         try clear c37
         try clear c37b0
         try clear c37b1
         try clear c37b2
         try clear c38
         try clear c38b0
         try clear c38b1
         try clear c42
         try clear c43
         try clear c43b0
         try clear c43b1
         try clear c45
         try clear c45b0
         try clear c45b1
         try clear c48
         try clear hcz10_0
         try clear hcz10_1
         try clear hcz10_2
         try clear hcz10_3
         try clear hcz23_0
         try clear hcz23_1
         try clear hcz23_2
         try clear hcz23_3
         try clear hcz35_0
         try clear hcz35_1
         try clear hcz35_2
         try clear hcz35_3
         try clear hcz7_0
         try clear hcz7_1
         try clear hcz7_2
         try clear hcz7_3
         try clear hcz9_0
         try clear hcz9_1
         try clear hcz9_2
         try clear hcz9_3
         try clear hfz10_0
         try clear hfz10_1
         try clear hfz10_2
         try clear hfz10_3
         try clear hfz23_0
         try clear hfz23_1
         try clear hfz23_2
         try clear hfz23_3
         try clear hfz35_0
         try clear hfz35_1
         try clear hfz35_2
         try clear hfz35_3
         try clear hfz7_0
         try clear hfz7_1
         try clear hfz7_2
         try clear hfz7_3
         try clear hfz9_0
         try clear hfz9_1
         try clear hfz9_2
         try clear hfz9_3
         try clear p2
         obtain ⟨x12_4, x13_4, rfl, rfl, HA, HK4, HO_6, HO_8, BK101, HB⟩ := hrel
         cases gk with
         | zero => exact absurd HA.out (by simp [armadalaw18_BumpMore.l0])
         | succ k4 =>
          have H := HA.out
          clear HA
          simp only [armadalaw18_BumpMore.l0] at H
          by_cases c49 : x13_4 < (t120.length : Int)
          ·
           rw [if_pos c49] at H
           have c49b0 := decide_eq_true c49
           clear c49
           by_cases c50 : x12_4 < (t113.length : Int)
           ·
            rw [if_pos c50] at H
            have c50b0 := decide_eq_true c50
            clear c50
            replace H := xI H
            obtain ⟨c51, H⟩ := H
            have c51b0 := decide_eq_true c51
            clear c51
            replace H := xI H
            obtain ⟨c52, H⟩ := H
            have c52b0 := decide_eq_true c52
            clear c52
            by_cases c53 : (((rd_T30 t113 x12_4).f0) == ((rd_T30 t120 x13_4).f0) && (((rd_T30 t113 x12_4).f1) == ((rd_T30 t120 x13_4).f1) && ((((rd_T30 t113 x12_4).f2.f0) == ((rd_T30 t120 x13_4).f2.f0) && (((rd_T30 t113 x12_4).f2.f1) == ((rd_T30 t120 x13_4).f2.f1) && (((rd_T30 t113 x12_4).f2.f2) == ((rd_T30 t120 x13_4).f2.f2) && ((((rd_T30 t113 x12_4).f2.f3).toList) == (((rd_T30 t120 x13_4).f2.f3).toList) && ((((rd_T30 t113 x12_4).f2.f4).toList) == (((rd_T30 t120 x13_4).f2.f4).toList)))))) && ((((rd_T30 t113 x12_4).f3.f0) == ((rd_T30 t120 x13_4).f3.f0) && (((rd_T30 t113 x12_4).f3.f1) == ((rd_T30 t120 x13_4).f3.f1) && (((rd_T30 t113 x12_4).f3.f2) == ((rd_T30 t120 x13_4).f3.f2) && ((((rd_T30 t113 x12_4).f3.f3).toList) == (((rd_T30 t120 x13_4).f3.f3).toList) && ((((rd_T30 t113 x12_4).f3.f4).toList) == (((rd_T30 t120 x13_4).f3.f4).toList)))))) && (((rd_T30 t113 x12_4).f4) == ((rd_T30 t120 x13_4).f4)))))) = true
            ·
             rw [if_pos c53] at H
             have c53b0 : (((rd_T30 t113 x12_4).f0) == ((rd_T30 t120 x13_4).f0) && (((rd_T30 t113 x12_4).f1) == ((rd_T30 t120 x13_4).f1) && ((((rd_T30 t113 x12_4).f2.f0) == ((rd_T30 t120 x13_4).f2.f0) && (((rd_T30 t113 x12_4).f2.f1) == ((rd_T30 t120 x13_4).f2.f1) && (((rd_T30 t113 x12_4).f2.f2) == ((rd_T30 t120 x13_4).f2.f2) && ((((rd_T30 t113 x12_4).f2.f3).toList) == (((rd_T30 t120 x13_4).f2.f3).toList) && ((((rd_T30 t113 x12_4).f2.f4).toList) == (((rd_T30 t120 x13_4).f2.f4).toList)))))) && ((((rd_T30 t113 x12_4).f3.f0) == ((rd_T30 t120 x13_4).f3.f0) && (((rd_T30 t113 x12_4).f3.f1) == ((rd_T30 t120 x13_4).f3.f1) && (((rd_T30 t113 x12_4).f3.f2) == ((rd_T30 t120 x13_4).f3.f2) && ((((rd_T30 t113 x12_4).f3.f3).toList) == (((rd_T30 t120 x13_4).f3.f3).toList) && ((((rd_T30 t113 x12_4).f3.f4).toList) == (((rd_T30 t120 x13_4).f3.f4).toList)))))) && (((rd_T30 t113 x12_4).f4) == ((rd_T30 t120 x13_4).f4)))))) = true := c53
             (try (have c53b1 : decide (((rd_T30 t113 x12_4).f0) = ((rd_T30 t120 x13_4).f0) && (((rd_T30 t113 x12_4).f1) == ((rd_T30 t120 x13_4).f1) && ((((rd_T30 t113 x12_4).f2.f0) == ((rd_T30 t120 x13_4).f2.f0) && (((rd_T30 t113 x12_4).f2.f1) == ((rd_T30 t120 x13_4).f2.f1) && (((rd_T30 t113 x12_4).f2.f2) == ((rd_T30 t120 x13_4).f2.f2) && ((((rd_T30 t113 x12_4).f2.f3).toList) == (((rd_T30 t120 x13_4).f2.f3).toList) && ((((rd_T30 t113 x12_4).f2.f4).toList) == (((rd_T30 t120 x13_4).f2.f4).toList)))))) && ((((rd_T30 t113 x12_4).f3.f0) == ((rd_T30 t120 x13_4).f3.f0) && (((rd_T30 t113 x12_4).f3.f1) == ((rd_T30 t120 x13_4).f3.f1) && (((rd_T30 t113 x12_4).f3.f2) == ((rd_T30 t120 x13_4).f3.f2) && ((((rd_T30 t113 x12_4).f3.f3).toList) == (((rd_T30 t120 x13_4).f3.f3).toList) && ((((rd_T30 t113 x12_4).f3.f4).toList) == (((rd_T30 t120 x13_4).f3.f4).toList)))))) && (((rd_T30 t113 x12_4).f4) == ((rd_T30 t120 x13_4).f4)))))) = true := by simpa using c53))
             (try (have c53b2 : (((rd_T30 t113 x12_4).f0) == ((rd_T30 t120 x13_4).f0) && (((rd_T30 t113 x12_4).f1) == ((rd_T30 t120 x13_4).f1) && ((((rd_T30 t113 x12_4).f2.f0) == ((rd_T30 t120 x13_4).f2.f0) && (((rd_T30 t113 x12_4).f2.f1) == ((rd_T30 t120 x13_4).f2.f1) && (((rd_T30 t113 x12_4).f2.f2) == ((rd_T30 t120 x13_4).f2.f2) && ((((rd_T30 t113 x12_4).f2.f3).toList) == (((rd_T30 t120 x13_4).f2.f3).toList) && ((((rd_T30 t113 x12_4).f2.f4).toList) == (((rd_T30 t120 x13_4).f2.f4).toList)))))) && ((((rd_T30 t113 x12_4).f3.f0) == ((rd_T30 t120 x13_4).f3.f0) && (((rd_T30 t113 x12_4).f3.f1) == ((rd_T30 t120 x13_4).f3.f1) && (((rd_T30 t113 x12_4).f3.f2) == ((rd_T30 t120 x13_4).f3.f2) && ((((rd_T30 t113 x12_4).f3.f3).toList) == (((rd_T30 t120 x13_4).f3.f3).toList) && ((((rd_T30 t113 x12_4).f3.f4).toList) == (((rd_T30 t120 x13_4).f3.f4).toList)))))) && (((rd_T30 t113 x12_4).f4) == ((rd_T30 t120 x13_4).f4)))))) = true := by simpa using c53))
             clear c53
             have H' := Aside0.mk H
             clear H
             obtain ⟨Ao54, co54, eo54⟩ := Kd.R_slice HO_8.out
             subst eo54
             try go_wp2
             have n0_ := Aside0.mk (Kd.R_drew HO_6.out)
             have n1_ := Aside0.mk (Kd.R_drew HO_8.out)
             have n2_ := Aside0.mk (blk_drew BK101.out)
             have n3_ := Aside0.mk (below_drew1 HB.out)
             clear HO_6
             clear HO_8
             clear BK101
             clear HB
             have HO_6 := n0_
             have HO_8 := n1_
             have BK101 := n2_
             have HB := n3_
             clear n0_ n1_ n2_ n3_
             obtain ⟨Ao56, co56, eo56⟩ := Kd.R_slice HO_6.out
             (first | subst eo56 | (injection eo56 with f1_ f2_ f3_; have f4_ := f1_.symm; have f5_ := f3_.symm; clear f1_ f2_ f3_; subst f4_; subst f5_))
             have p129 : 0 ≤ (x12_4 : Int) := xD
             have q129 : x12_4 < (t113.length : Int) := xD
             obtain ⟨ad129, e129, hx129_0, hx129_1, hx129_2, hx129_3, hx129_4, hx129_5, hx129_6, hx129_7, hx129_8, hx129_9, hx129_10, hx129_11, hx129_12⟩ := at_T30 (Kd.R_reads' HO_6.out).2.2 x12_4 p129 q129
             cases e129
             replace p129 := eq_true p129
             replace q129 := eq_true q129
             have p130 : 0 ≤ (x13_4 : Int) := xD
             have q130 : x13_4 < (t120.length : Int) := xD
             obtain ⟨ad130, e130, hx130_0, hx130_1, hx130_2, hx130_3, hx130_4, hx130_5, hx130_6, hx130_7, hx130_8, hx130_9, hx130_10, hx130_11, hx130_12⟩ := at_T30 (Kd.R_reads' HO_8.out).2.2 x13_4 p130 q130
             cases e130
             replace p130 := eq_true p130
             replace q130 := eq_true q130
             refine start_ (n := 15) (S := fun w' => w'.cell? (ad129.add ((x12_4).toNat * 13)) = some (.int .i64 ((rd_T30 t113 x12_4).f0)) ∧ w'.cell? ⟨(ad129.add ((x12_4).toNat * 13)).block, (ad129.add ((x12_4).toNat * 13)).off + 1, none⟩ = some (.bool ((rd_T30 t113 x12_4).f1)) ∧ w'.cell? ⟨(ad129.add ((x12_4).toNat * 13)).block, (ad129.add ((x12_4).toNat * 13)).off + 2, none⟩ = some (.int .i64 ((rd_T30 t113 x12_4).f2.f0)) ∧ w'.cell? ⟨(ad129.add ((x12_4).toNat * 13)).block, (ad129.add ((x12_4).toNat * 13)).off + 3, none⟩ = some (.int .i64 ((rd_T30 t113 x12_4).f2.f1)) ∧ w'.cell? ⟨(ad129.add ((x12_4).toNat * 13)).block, (ad129.add ((x12_4).toNat * 13)).off + 4, none⟩ = some (.int .i64 ((rd_T30 t113 x12_4).f2.f2)) ∧ w'.cell? ⟨(ad129.add ((x12_4).toNat * 13)).block, (ad129.add ((x12_4).toNat * 13)).off + 5, none⟩ = some (.string ((rd_T30 t113 x12_4).f2.f3)) ∧ w'.cell? ⟨(ad129.add ((x12_4).toNat * 13)).block, (ad129.add ((x12_4).toNat * 13)).off + 6, none⟩ = some (.string ((rd_T30 t113 x12_4).f2.f4)) ∧ w'.cell? ⟨(ad129.add ((x12_4).toNat * 13)).block, (ad129.add ((x12_4).toNat * 13)).off + 7, none⟩ = some (.int .i64 ((rd_T30 t113 x12_4).f3.f0)) ∧ w'.cell? ⟨(ad129.add ((x12_4).toNat * 13)).block, (ad129.add ((x12_4).toNat * 13)).off + 8, none⟩ = some (.int .i64 ((rd_T30 t113 x12_4).f3.f1)) ∧ w'.cell? ⟨(ad129.add ((x12_4).toNat * 13)).block, (ad129.add ((x12_4).toNat * 13)).off + 9, none⟩ = some (.int .i64 ((rd_T30 t113 x12_4).f3.f2)) ∧ w'.cell? ⟨(ad129.add ((x12_4).toNat * 13)).block, (ad129.add ((x12_4).toNat * 13)).off + 10, none⟩ = some (.string ((rd_T30 t113 x12_4).f3.f3)) ∧ w'.cell? ⟨(ad129.add ((x12_4).toNat * 13)).block, (ad129.add ((x12_4).toNat * 13)).off + 11, none⟩ = some (.string ((rd_T30 t113 x12_4).f3.f4)) ∧ w'.cell? ⟨(ad129.add ((x12_4).toNat * 13)).block, (ad129.add ((x12_4).toNat * 13)).off + 12, none⟩ = some (.int .i64 ((rd_T30 t113 x12_4).f4)) ∧ w'.cell? (ad130.add ((x13_4).toNat * 13)) = some (.int .i64 ((rd_T30 t120 x13_4).f0)) ∧ w'.cell? ⟨(ad130.add ((x13_4).toNat * 13)).block, (ad130.add ((x13_4).toNat * 13)).off + 1, none⟩ = some (.bool ((rd_T30 t120 x13_4).f1)) ∧ w'.cell? ⟨(ad130.add ((x13_4).toNat * 13)).block, (ad130.add ((x13_4).toNat * 13)).off + 2, none⟩ = some (.int .i64 ((rd_T30 t120 x13_4).f2.f0)) ∧ w'.cell? ⟨(ad130.add ((x13_4).toNat * 13)).block, (ad130.add ((x13_4).toNat * 13)).off + 3, none⟩ = some (.int .i64 ((rd_T30 t120 x13_4).f2.f1)) ∧ w'.cell? ⟨(ad130.add ((x13_4).toNat * 13)).block, (ad130.add ((x13_4).toNat * 13)).off + 4, none⟩ = some (.int .i64 ((rd_T30 t120 x13_4).f2.f2)) ∧ w'.cell? ⟨(ad130.add ((x13_4).toNat * 13)).block, (ad130.add ((x13_4).toNat * 13)).off + 5, none⟩ = some (.string ((rd_T30 t120 x13_4).f2.f3)) ∧ w'.cell? ⟨(ad130.add ((x13_4).toNat * 13)).block, (ad130.add ((x13_4).toNat * 13)).off + 6, none⟩ = some (.string ((rd_T30 t120 x13_4).f2.f4)) ∧ w'.cell? ⟨(ad130.add ((x13_4).toNat * 13)).block, (ad130.add ((x13_4).toNat * 13)).off + 7, none⟩ = some (.int .i64 ((rd_T30 t120 x13_4).f3.f0)) ∧ w'.cell? ⟨(ad130.add ((x13_4).toNat * 13)).block, (ad130.add ((x13_4).toNat * 13)).off + 8, none⟩ = some (.int .i64 ((rd_T30 t120 x13_4).f3.f1)) ∧ w'.cell? ⟨(ad130.add ((x13_4).toNat * 13)).block, (ad130.add ((x13_4).toNat * 13)).off + 9, none⟩ = some (.int .i64 ((rd_T30 t120 x13_4).f3.f2)) ∧ w'.cell? ⟨(ad130.add ((x13_4).toNat * 13)).block, (ad130.add ((x13_4).toNat * 13)).off + 10, none⟩ = some (.string ((rd_T30 t120 x13_4).f3.f3)) ∧ w'.cell? ⟨(ad130.add ((x13_4).toNat * 13)).block, (ad130.add ((x13_4).toNat * 13)).off + 11, none⟩ = some (.string ((rd_T30 t120 x13_4).f3.f4)) ∧ w'.cell? ⟨(ad130.add ((x13_4).toNat * 13)).block, (ad130.add ((x13_4).toNat * 13)).off + 12, none⟩ = some (.int .i64 ((rd_T30 t120 x13_4).f4))) (ds := []) #[ff, ff, ff, ff, ff, ff, ff, ff, ff, ff, ff, ff, ff, ff, ff] (by kernel_rfl) rfl rfl ⟨hx129_0, hx129_1, hx129_2, hx129_3, hx129_4, hx129_5, hx129_6, hx129_7, hx129_8, hx129_9, hx129_10, hx129_11, hx129_12, hx130_0, hx130_1, hx130_2, hx130_3, hx130_4, hx130_5, hx130_6, hx130_7, hx130_8, hx130_9, hx130_10, hx130_11, hx130_12⟩ (fun hHeld => ?_); refine with_tabW armadalaw18_BumpMore.tab19 armadalaw18_BumpMore.bits19 (fun HT_ HW_ => ?_)
             generalize wr.drew = w55 at HO_6 HO_8 BK101 HB hx129_0 hx129_1 hx129_10 hx129_11 hx129_12 hx129_2 hx129_3 hx129_4 hx129_5 hx129_6 hx129_7 hx129_8 hx129_9 hx130_0 hx130_1 hx130_10 hx130_11 hx130_12 hx130_2 hx130_3 hx130_4 hx130_5 hx130_6 hx130_7 hx130_8 hx130_9 hHeld ⊢
             refine pure_ (i := 0) (N := some 99) (v := ?_) (a' := ?_) #[tt, ff, ff, ff, ff, ff, ff, ff, ff, ff, ff, ff, ff, ff, ff] rfl rfl (any_of HT_.out (by kernel_rfl)) (fun _ _ _ h => h) (Or.inl ⟨by rfl, ?_⟩) ?_ ?_
             rotate_left
             ·
              intro w'
              go_simp
              with_reducible rfl
             rotate_left
             ·
              simp only [Act.put, List.setIfInBounds_toArray, List.set_cons_zero, List.set_cons_succ, i64_w, i32_w]
              rfl
             refine pure_ (i := 1) (N := some 100) (v := ?_) (a' := ?_) #[tt, tt, ff, ff, ff, ff, ff, ff, ff, ff, ff, ff, ff, ff, ff] rfl rfl (any_of HT_.out (by kernel_rfl)) (fun _ _ _ h => h) (Or.inl ⟨by rfl, ?_⟩) ?_ ?_
             rotate_left
             ·
              intro w'
              go_simp
              with_reducible rfl
             rotate_left
             ·
              simp only [Act.put, List.setIfInBounds_toArray, List.set_cons_zero, List.set_cons_succ, i64_w, i32_w]
              rfl
             refine pure_ (i := 2) (N := some 101) (v := ?_) (a' := ?_) #[tt, tt, tt, ff, ff, ff, ff, ff, ff, ff, ff, ff, ff, ff, ff] rfl rfl (any_of HT_.out (by kernel_rfl)) (fun _ _ _ h => h) (Or.inl ⟨by rfl, ?_⟩) ?_ ?_
             rotate_left
             ·
              intro w'
              go_simp
              with_reducible rfl
             rotate_left
             ·
              simp only [Act.put, List.setIfInBounds_toArray, List.set_cons_zero, List.set_cons_succ, i64_w, i32_w]
              rfl
             refine pure_ (i := 3) (N := some 102) (v := ?_) (a' := ?_) #[tt, tt, tt, tt, ff, ff, ff, ff, ff, ff, ff, ff, ff, ff, ff] rfl rfl (any_of HT_.out (by kernel_rfl)) (fun _ _ _ h => h) (Or.inl ⟨by rfl, ?_⟩) ?_ ?_
             rotate_left
             ·
              intro w'
              go_simp
              with_reducible rfl
             rotate_left
             ·
              simp only [Act.put, List.setIfInBounds_toArray, List.set_cons_zero, List.set_cons_succ, i64_w, i32_w]
              rfl
             refine pure_ (i := 4) (N := some 103) (v := ?_) (a' := ?_) #[tt, tt, tt, tt, tt, ff, ff, ff, ff, ff, ff, ff, ff, ff, ff] rfl rfl (any_of HT_.out (by kernel_rfl)) (fun _ _ _ h => h) (Or.inl ⟨by rfl, ?_⟩) ?_ ?_
             rotate_left
             ·
              intro w'
              go_simp
              with_reducible rfl
             rotate_left
             ·
              simp only [Act.put, List.setIfInBounds_toArray, List.set_cons_zero, List.set_cons_succ, i64_w, i32_w]
              rfl
             refine pure_ (i := 5) (N := some 104) (v := ?_) (a' := ?_) #[tt, tt, tt, tt, tt, tt, ff, ff, ff, ff, ff, ff, ff, ff, ff] rfl rfl (any_of HT_.out (by kernel_rfl)) (fun _ _ _ h => h) (Or.inl ⟨by rfl, ?_⟩) ?_ ?_
             rotate_left
             ·
              intro w'
              go_simp
              with_reducible rfl
             rotate_left
             ·
              simp only [Act.put, List.setIfInBounds_toArray, List.set_cons_zero, List.set_cons_succ, i64_w, i32_w]
              rfl
             refine pure_ (i := 6) (N := some 105) (v := ?_) (a' := ?_) #[tt, tt, tt, tt, tt, tt, tt, ff, ff, ff, ff, ff, ff, ff, ff] rfl rfl (any_of HT_.out (by kernel_rfl)) (fun _ _ _ h => h) (Or.inl ⟨by rfl, ?_⟩) ?_ ?_
             rotate_left
             ·
              intro w'
              go_simp
              with_reducible rfl
             rotate_left
             ·
              simp only [Act.put, List.setIfInBounds_toArray, List.set_cons_zero, List.set_cons_succ, i64_w, i32_w]
              rfl
             refine pure_ (i := 7) (N := some 106) (v := ?_) (a' := ?_) #[tt, tt, tt, tt, tt, tt, tt, tt, ff, ff, ff, ff, ff, ff, ff] rfl rfl (any_of HT_.out (by kernel_rfl)) (fun _ _ _ h => h) (Or.inl ⟨by rfl, ?_⟩) ?_ ?_
             rotate_left
             ·
              intro w'
              go_simp
              with_reducible rfl
             rotate_left
             ·
              simp only [Act.put, List.setIfInBounds_toArray, List.set_cons_zero, List.set_cons_succ, i64_w, i32_w]
              rfl
             refine pure_ (i := 9) (N := some 108) (v := ?_) (a' := ?_) #[tt, tt, tt, tt, tt, tt, tt, tt, ff, tt, ff, ff, ff, ff, ff] rfl rfl (any_of HT_.out (by kernel_rfl)) (fun _ _ _ h => h) (Or.inl ⟨by rfl, ?_⟩) ?_ ?_
             rotate_left
             ·
              intro w'
              go_simp
              with_reducible rfl
             rotate_left
             ·
              simp only [Act.put, List.setIfInBounds_toArray, List.set_cons_zero, List.set_cons_succ, i64_w, i32_w]
              rfl
             refine pure_ (i := 10) (N := some 109) (v := ?_) (a' := ?_) #[tt, tt, tt, tt, tt, tt, tt, tt, ff, tt, tt, ff, ff, ff, ff] rfl rfl (any_of HT_.out (by kernel_rfl)) (fun _ _ _ h => h) (Or.inl ⟨by rfl, ?_⟩) ?_ ?_
             rotate_left
             ·
              intro w'
              go_simp
              with_reducible rfl
             rotate_left
             ·
              simp only [Act.put, List.setIfInBounds_toArray, List.set_cons_zero, List.set_cons_succ, i64_w, i32_w]
              rfl
             refine pure_ (i := 11) (N := some 110) (v := ?_) (a' := ?_) #[tt, tt, tt, tt, tt, tt, tt, tt, ff, tt, tt, tt, ff, ff, ff] rfl rfl (any_of HT_.out (by kernel_rfl)) (fun _ _ _ h => h) (Or.inl ⟨by rfl, ?_⟩) ?_ ?_
             rotate_left
             ·
              intro w'
              go_simp
              with_reducible rfl
             rotate_left
             ·
              simp only [Act.put, List.setIfInBounds_toArray, List.set_cons_zero, List.set_cons_succ, i64_w, i32_w]
              rfl
             refine take_ (i := 8) (N := some 107) (v := ?_) (a' := ?_) #[tt, tt, tt, tt, tt, tt, tt, tt, tt, tt, tt, tt, ff, ff, ff] rfl rfl (take_ofW HT_.out HW_.out (by kernel_rfl)) (fun _ _ _ h => h) (Or.inl ⟨by rfl, ?_⟩) hHeld ?_ ?_
             rotate_left
             ·
              rintro w' ⟨s0, s1, s2, s3, s4, s5, s6, s7, s8, s9, s10, s11, s12, s13, s14, s15, s16, s17, s18, s19, s20, s21, s22, s23, s24, s25⟩
              go_simp
              with_reducible rfl
             rotate_left
             ·
              simp only [Act.put, List.setIfInBounds_toArray, List.set_cons_zero, List.set_cons_succ, i64_w, i32_w]
              rfl
             refine take_ (i := 12) (N := some 111) (v := ?_) (a' := ?_) #[tt, tt, tt, tt, tt, tt, tt, tt, tt, tt, tt, tt, tt, ff, ff] rfl rfl (take_ofW HT_.out HW_.out (by kernel_rfl)) (fun _ _ _ h => h) (Or.inl ⟨by rfl, ?_⟩) hHeld ?_ ?_
             rotate_left
             ·
              rintro w' ⟨s0, s1, s2, s3, s4, s5, s6, s7, s8, s9, s10, s11, s12, s13, s14, s15, s16, s17, s18, s19, s20, s21, s22, s23, s24, s25⟩
              go_simp
              with_reducible rfl
             rotate_left
             ·
              simp only [Act.put, List.setIfInBounds_toArray, List.set_cons_zero, List.set_cons_succ, i64_w, i32_w]
              rfl
             refine pure_ (i := 13) (N := some 112) (v := ?_) (a' := ?_) #[tt, tt, tt, tt, tt, tt, tt, tt, tt, tt, tt, tt, tt, tt, ff] rfl rfl (any_of HT_.out (by kernel_rfl)) (fun _ _ _ h => h) (Or.inl ⟨by rfl, ?_⟩) ?_ ?_
             rotate_left
             ·
              intro w'
              go_simp
              with_reducible rfl
             rotate_left
             ·
              simp only [Act.put, List.setIfInBounds_toArray, List.set_cons_zero, List.set_cons_succ, i64_w, i32_w]
              rfl
             refine pure_ (i := 14) (N := some 113) (v := ?_) (a' := ?_) #[tt, tt, tt, tt, tt, tt, tt, tt, tt, tt, tt, tt, tt, tt, tt] rfl rfl (any_of HT_.out (by kernel_rfl)) (fun _ _ _ h => h) (Or.inl ⟨by rfl, ?_⟩) ?_ ?_
             rotate_left
             ·
              intro w'
              go_simp
              with_reducible rfl
             rotate_left
             ·
              simp only [Act.put, List.setIfInBounds_toArray, List.set_cons_zero, List.set_cons_succ, i64_w, i32_w]
              rfl
             refine done_ (done_of HT_.out (by kernel_rfl)) ?_
             try go_wp2
             go_roundg k4
             case measure => have := HJ2.out; have := HJ21.out; have := HJ43.out; have := HK4.out; omega
             case rel => exact ⟨(wrap64 (x12_4 + 1)), (wrap64 (x13_4 + 1)), xR, xR, H', ⟨by have := HJ2.out; have := HJ21.out; have := HJ43.out; have := HK4.out; omega⟩, ⟨by (with_reducible repeat (first | apply Kd.R_alloc | apply Kd.R_drewN | apply Kd.R_drew)); exact HO_6.out⟩, ⟨by (with_reducible repeat (first | apply Kd.R_alloc | apply Kd.R_drewN | apply Kd.R_drew)); exact HO_8.out⟩, ⟨by (with_reducible repeat (first | refine blk_drewN ?_ _ | refine blk_drew ?_ | refine blk_alloc ?_ _)); exact BK101.out⟩, ⟨xB⟩⟩
            rw [if_neg c53] at H
            have c53b0 : (((rd_T30 t113 x12_4).f0) == ((rd_T30 t120 x13_4).f0) && (((rd_T30 t113 x12_4).f1) == ((rd_T30 t120 x13_4).f1) && ((((rd_T30 t113 x12_4).f2.f0) == ((rd_T30 t120 x13_4).f2.f0) && (((rd_T30 t113 x12_4).f2.f1) == ((rd_T30 t120 x13_4).f2.f1) && (((rd_T30 t113 x12_4).f2.f2) == ((rd_T30 t120 x13_4).f2.f2) && ((((rd_T30 t113 x12_4).f2.f3).toList) == (((rd_T30 t120 x13_4).f2.f3).toList) && ((((rd_T30 t113 x12_4).f2.f4).toList) == (((rd_T30 t120 x13_4).f2.f4).toList)))))) && ((((rd_T30 t113 x12_4).f3.f0) == ((rd_T30 t120 x13_4).f3.f0) && (((rd_T30 t113 x12_4).f3.f1) == ((rd_T30 t120 x13_4).f3.f1) && (((rd_T30 t113 x12_4).f3.f2) == ((rd_T30 t120 x13_4).f3.f2) && ((((rd_T30 t113 x12_4).f3.f3).toList) == (((rd_T30 t120 x13_4).f3.f3).toList) && ((((rd_T30 t113 x12_4).f3.f4).toList) == (((rd_T30 t120 x13_4).f3.f4).toList)))))) && (((rd_T30 t113 x12_4).f4) == ((rd_T30 t120 x13_4).f4)))))) = false := by simpa using c53
            (try (have c53b1 : decide (((rd_T30 t113 x12_4).f0) = ((rd_T30 t120 x13_4).f0) && (((rd_T30 t113 x12_4).f1) == ((rd_T30 t120 x13_4).f1) && ((((rd_T30 t113 x12_4).f2.f0) == ((rd_T30 t120 x13_4).f2.f0) && (((rd_T30 t113 x12_4).f2.f1) == ((rd_T30 t120 x13_4).f2.f1) && (((rd_T30 t113 x12_4).f2.f2) == ((rd_T30 t120 x13_4).f2.f2) && ((((rd_T30 t113 x12_4).f2.f3).toList) == (((rd_T30 t120 x13_4).f2.f3).toList) && ((((rd_T30 t113 x12_4).f2.f4).toList) == (((rd_T30 t120 x13_4).f2.f4).toList)))))) && ((((rd_T30 t113 x12_4).f3.f0) == ((rd_T30 t120 x13_4).f3.f0) && (((rd_T30 t113 x12_4).f3.f1) == ((rd_T30 t120 x13_4).f3.f1) && (((rd_T30 t113 x12_4).f3.f2) == ((rd_T30 t120 x13_4).f3.f2) && ((((rd_T30 t113 x12_4).f3.f3).toList) == (((rd_T30 t120 x13_4).f3.f3).toList) && ((((rd_T30 t113 x12_4).f3.f4).toList) == (((rd_T30 t120 x13_4).f3.f4).toList)))))) && (((rd_T30 t113 x12_4).f4) == ((rd_T30 t120 x13_4).f4)))))) = false := by simpa using c53))
            (try (have c53b2 : (((rd_T30 t113 x12_4).f0) == ((rd_T30 t120 x13_4).f0) && (((rd_T30 t113 x12_4).f1) == ((rd_T30 t120 x13_4).f1) && ((((rd_T30 t113 x12_4).f2.f0) == ((rd_T30 t120 x13_4).f2.f0) && (((rd_T30 t113 x12_4).f2.f1) == ((rd_T30 t120 x13_4).f2.f1) && (((rd_T30 t113 x12_4).f2.f2) == ((rd_T30 t120 x13_4).f2.f2) && ((((rd_T30 t113 x12_4).f2.f3).toList) == (((rd_T30 t120 x13_4).f2.f3).toList) && ((((rd_T30 t113 x12_4).f2.f4).toList) == (((rd_T30 t120 x13_4).f2.f4).toList)))))) && ((((rd_T30 t113 x12_4).f3.f0) == ((rd_T30 t120 x13_4).f3.f0) && (((rd_T30 t113 x12_4).f3.f1) == ((rd_T30 t120 x13_4).f3.f1) && (((rd_T30 t113 x12_4).f3.f2) == ((rd_T30 t120 x13_4).f3.f2) && ((((rd_T30 t113 x12_4).f3.f3).toList) == (((rd_T30 t120 x13_4).f3.f3).toList) && ((((rd_T30 t113 x12_4).f3.f4).toList) == (((rd_T30 t120 x13_4).f3.f4).toList)))))) && (((rd_T30 t113 x12_4).f4) == ((rd_T30 t120 x13_4).f4)))))) = false := by simpa using c53))
            (try (have c53b3 : ¬ (((rd_T30 t113 x12_4).f0) = ((rd_T30 t120 x13_4).f0) && (((rd_T30 t113 x12_4).f1) == ((rd_T30 t120 x13_4).f1) && ((((rd_T30 t113 x12_4).f2.f0) == ((rd_T30 t120 x13_4).f2.f0) && (((rd_T30 t113 x12_4).f2.f1) == ((rd_T30 t120 x13_4).f2.f1) && (((rd_T30 t113 x12_4).f2.f2) == ((rd_T30 t120 x13_4).f2.f2) && ((((rd_T30 t113 x12_4).f2.f3).toList) == (((rd_T30 t120 x13_4).f2.f3).toList) && ((((rd_T30 t113 x12_4).f2.f4).toList) == (((rd_T30 t120 x13_4).f2.f4).toList)))))) && ((((rd_T30 t113 x12_4).f3.f0) == ((rd_T30 t120 x13_4).f3.f0) && (((rd_T30 t113 x12_4).f3.f1) == ((rd_T30 t120 x13_4).f3.f1) && (((rd_T30 t113 x12_4).f3.f2) == ((rd_T30 t120 x13_4).f3.f2) && ((((rd_T30 t113 x12_4).f3.f3).toList) == (((rd_T30 t120 x13_4).f3.f3).toList) && ((((rd_T30 t113 x12_4).f3.f4).toList) == (((rd_T30 t120 x13_4).f3.f4).toList)))))) && (((rd_T30 t113 x12_4).f4) == ((rd_T30 t120 x13_4).f4)))))) := by simpa using c53))
            clear c53
            have H' := Aside0.mk H
            clear H
            obtain ⟨Ao57, co57, eo57⟩ := Kd.R_slice HO_8.out
            subst eo57
            try go_wp2
            have n0_ := Aside0.mk (Kd.R_drew HO_6.out)
            have n1_ := Aside0.mk (Kd.R_drew HO_8.out)
            have n2_ := Aside0.mk (blk_drew BK101.out)
            have n3_ := Aside0.mk (below_drew1 HB.out)
            clear HO_6
            clear HO_8
            clear BK101
            clear HB
            have HO_6 := n0_
            have HO_8 := n1_
            have BK101 := n2_
            have HB := n3_
            clear n0_ n1_ n2_ n3_
            obtain ⟨Ao59, co59, eo59⟩ := Kd.R_slice HO_6.out
            (first | subst eo59 | (injection eo59 with f1_ f2_ f3_; have f4_ := f1_.symm; have f5_ := f3_.symm; clear f1_ f2_ f3_; subst f4_; subst f5_))
            have p129 : 0 ≤ (x12_4 : Int) := xD
            have q129 : x12_4 < (t113.length : Int) := xD
            obtain ⟨ad129, e129, hx129_0, hx129_1, hx129_2, hx129_3, hx129_4, hx129_5, hx129_6, hx129_7, hx129_8, hx129_9, hx129_10, hx129_11, hx129_12⟩ := at_T30 (Kd.R_reads' HO_6.out).2.2 x12_4 p129 q129
            cases e129
            replace p129 := eq_true p129
            replace q129 := eq_true q129
            have p130 : 0 ≤ (x13_4 : Int) := xD
            have q130 : x13_4 < (t120.length : Int) := xD
            obtain ⟨ad130, e130, hx130_0, hx130_1, hx130_2, hx130_3, hx130_4, hx130_5, hx130_6, hx130_7, hx130_8, hx130_9, hx130_10, hx130_11, hx130_12⟩ := at_T30 (Kd.R_reads' HO_8.out).2.2 x13_4 p130 q130
            cases e130
            replace p130 := eq_true p130
            replace q130 := eq_true q130
            refine start_ (n := 15) (S := fun w' => w'.cell? (ad129.add ((x12_4).toNat * 13)) = some (.int .i64 ((rd_T30 t113 x12_4).f0)) ∧ w'.cell? ⟨(ad129.add ((x12_4).toNat * 13)).block, (ad129.add ((x12_4).toNat * 13)).off + 1, none⟩ = some (.bool ((rd_T30 t113 x12_4).f1)) ∧ w'.cell? ⟨(ad129.add ((x12_4).toNat * 13)).block, (ad129.add ((x12_4).toNat * 13)).off + 2, none⟩ = some (.int .i64 ((rd_T30 t113 x12_4).f2.f0)) ∧ w'.cell? ⟨(ad129.add ((x12_4).toNat * 13)).block, (ad129.add ((x12_4).toNat * 13)).off + 3, none⟩ = some (.int .i64 ((rd_T30 t113 x12_4).f2.f1)) ∧ w'.cell? ⟨(ad129.add ((x12_4).toNat * 13)).block, (ad129.add ((x12_4).toNat * 13)).off + 4, none⟩ = some (.int .i64 ((rd_T30 t113 x12_4).f2.f2)) ∧ w'.cell? ⟨(ad129.add ((x12_4).toNat * 13)).block, (ad129.add ((x12_4).toNat * 13)).off + 5, none⟩ = some (.string ((rd_T30 t113 x12_4).f2.f3)) ∧ w'.cell? ⟨(ad129.add ((x12_4).toNat * 13)).block, (ad129.add ((x12_4).toNat * 13)).off + 6, none⟩ = some (.string ((rd_T30 t113 x12_4).f2.f4)) ∧ w'.cell? ⟨(ad129.add ((x12_4).toNat * 13)).block, (ad129.add ((x12_4).toNat * 13)).off + 7, none⟩ = some (.int .i64 ((rd_T30 t113 x12_4).f3.f0)) ∧ w'.cell? ⟨(ad129.add ((x12_4).toNat * 13)).block, (ad129.add ((x12_4).toNat * 13)).off + 8, none⟩ = some (.int .i64 ((rd_T30 t113 x12_4).f3.f1)) ∧ w'.cell? ⟨(ad129.add ((x12_4).toNat * 13)).block, (ad129.add ((x12_4).toNat * 13)).off + 9, none⟩ = some (.int .i64 ((rd_T30 t113 x12_4).f3.f2)) ∧ w'.cell? ⟨(ad129.add ((x12_4).toNat * 13)).block, (ad129.add ((x12_4).toNat * 13)).off + 10, none⟩ = some (.string ((rd_T30 t113 x12_4).f3.f3)) ∧ w'.cell? ⟨(ad129.add ((x12_4).toNat * 13)).block, (ad129.add ((x12_4).toNat * 13)).off + 11, none⟩ = some (.string ((rd_T30 t113 x12_4).f3.f4)) ∧ w'.cell? ⟨(ad129.add ((x12_4).toNat * 13)).block, (ad129.add ((x12_4).toNat * 13)).off + 12, none⟩ = some (.int .i64 ((rd_T30 t113 x12_4).f4)) ∧ w'.cell? (ad130.add ((x13_4).toNat * 13)) = some (.int .i64 ((rd_T30 t120 x13_4).f0)) ∧ w'.cell? ⟨(ad130.add ((x13_4).toNat * 13)).block, (ad130.add ((x13_4).toNat * 13)).off + 1, none⟩ = some (.bool ((rd_T30 t120 x13_4).f1)) ∧ w'.cell? ⟨(ad130.add ((x13_4).toNat * 13)).block, (ad130.add ((x13_4).toNat * 13)).off + 2, none⟩ = some (.int .i64 ((rd_T30 t120 x13_4).f2.f0)) ∧ w'.cell? ⟨(ad130.add ((x13_4).toNat * 13)).block, (ad130.add ((x13_4).toNat * 13)).off + 3, none⟩ = some (.int .i64 ((rd_T30 t120 x13_4).f2.f1)) ∧ w'.cell? ⟨(ad130.add ((x13_4).toNat * 13)).block, (ad130.add ((x13_4).toNat * 13)).off + 4, none⟩ = some (.int .i64 ((rd_T30 t120 x13_4).f2.f2)) ∧ w'.cell? ⟨(ad130.add ((x13_4).toNat * 13)).block, (ad130.add ((x13_4).toNat * 13)).off + 5, none⟩ = some (.string ((rd_T30 t120 x13_4).f2.f3)) ∧ w'.cell? ⟨(ad130.add ((x13_4).toNat * 13)).block, (ad130.add ((x13_4).toNat * 13)).off + 6, none⟩ = some (.string ((rd_T30 t120 x13_4).f2.f4)) ∧ w'.cell? ⟨(ad130.add ((x13_4).toNat * 13)).block, (ad130.add ((x13_4).toNat * 13)).off + 7, none⟩ = some (.int .i64 ((rd_T30 t120 x13_4).f3.f0)) ∧ w'.cell? ⟨(ad130.add ((x13_4).toNat * 13)).block, (ad130.add ((x13_4).toNat * 13)).off + 8, none⟩ = some (.int .i64 ((rd_T30 t120 x13_4).f3.f1)) ∧ w'.cell? ⟨(ad130.add ((x13_4).toNat * 13)).block, (ad130.add ((x13_4).toNat * 13)).off + 9, none⟩ = some (.int .i64 ((rd_T30 t120 x13_4).f3.f2)) ∧ w'.cell? ⟨(ad130.add ((x13_4).toNat * 13)).block, (ad130.add ((x13_4).toNat * 13)).off + 10, none⟩ = some (.string ((rd_T30 t120 x13_4).f3.f3)) ∧ w'.cell? ⟨(ad130.add ((x13_4).toNat * 13)).block, (ad130.add ((x13_4).toNat * 13)).off + 11, none⟩ = some (.string ((rd_T30 t120 x13_4).f3.f4)) ∧ w'.cell? ⟨(ad130.add ((x13_4).toNat * 13)).block, (ad130.add ((x13_4).toNat * 13)).off + 12, none⟩ = some (.int .i64 ((rd_T30 t120 x13_4).f4))) (ds := []) #[ff, ff, ff, ff, ff, ff, ff, ff, ff, ff, ff, ff, ff, ff, ff] (by kernel_rfl) rfl rfl ⟨hx129_0, hx129_1, hx129_2, hx129_3, hx129_4, hx129_5, hx129_6, hx129_7, hx129_8, hx129_9, hx129_10, hx129_11, hx129_12, hx130_0, hx130_1, hx130_2, hx130_3, hx130_4, hx130_5, hx130_6, hx130_7, hx130_8, hx130_9, hx130_10, hx130_11, hx130_12⟩ (fun hHeld => ?_); refine with_tabW armadalaw18_BumpMore.tab19 armadalaw18_BumpMore.bits19 (fun HT_ HW_ => ?_)
            generalize wr.drew = w58 at HO_6 HO_8 BK101 HB hx129_0 hx129_1 hx129_10 hx129_11 hx129_12 hx129_2 hx129_3 hx129_4 hx129_5 hx129_6 hx129_7 hx129_8 hx129_9 hx130_0 hx130_1 hx130_10 hx130_11 hx130_12 hx130_2 hx130_3 hx130_4 hx130_5 hx130_6 hx130_7 hx130_8 hx130_9 hHeld ⊢
            refine pure_ (i := 0) (N := some 99) (v := ?_) (a' := ?_) #[tt, ff, ff, ff, ff, ff, ff, ff, ff, ff, ff, ff, ff, ff, ff] rfl rfl (any_of HT_.out (by kernel_rfl)) (fun _ _ _ h => h) (Or.inl ⟨by rfl, ?_⟩) ?_ ?_
            rotate_left
            ·
             intro w'
             go_simp
             with_reducible rfl
            rotate_left
            ·
             simp only [Act.put, List.setIfInBounds_toArray, List.set_cons_zero, List.set_cons_succ, i64_w, i32_w]
             rfl
            refine pure_ (i := 1) (N := some 100) (v := ?_) (a' := ?_) #[tt, tt, ff, ff, ff, ff, ff, ff, ff, ff, ff, ff, ff, ff, ff] rfl rfl (any_of HT_.out (by kernel_rfl)) (fun _ _ _ h => h) (Or.inl ⟨by rfl, ?_⟩) ?_ ?_
            rotate_left
            ·
             intro w'
             go_simp
             with_reducible rfl
            rotate_left
            ·
             simp only [Act.put, List.setIfInBounds_toArray, List.set_cons_zero, List.set_cons_succ, i64_w, i32_w]
             rfl
            refine pure_ (i := 2) (N := some 101) (v := ?_) (a' := ?_) #[tt, tt, tt, ff, ff, ff, ff, ff, ff, ff, ff, ff, ff, ff, ff] rfl rfl (any_of HT_.out (by kernel_rfl)) (fun _ _ _ h => h) (Or.inl ⟨by rfl, ?_⟩) ?_ ?_
            rotate_left
            ·
             intro w'
             go_simp
             with_reducible rfl
            rotate_left
            ·
             simp only [Act.put, List.setIfInBounds_toArray, List.set_cons_zero, List.set_cons_succ, i64_w, i32_w]
             rfl
            refine pure_ (i := 3) (N := some 102) (v := ?_) (a' := ?_) #[tt, tt, tt, tt, ff, ff, ff, ff, ff, ff, ff, ff, ff, ff, ff] rfl rfl (any_of HT_.out (by kernel_rfl)) (fun _ _ _ h => h) (Or.inl ⟨by rfl, ?_⟩) ?_ ?_
            rotate_left
            ·
             intro w'
             go_simp
             with_reducible rfl
            rotate_left
            ·
             simp only [Act.put, List.setIfInBounds_toArray, List.set_cons_zero, List.set_cons_succ, i64_w, i32_w]
             rfl
            refine pure_ (i := 4) (N := some 103) (v := ?_) (a' := ?_) #[tt, tt, tt, tt, tt, ff, ff, ff, ff, ff, ff, ff, ff, ff, ff] rfl rfl (any_of HT_.out (by kernel_rfl)) (fun _ _ _ h => h) (Or.inl ⟨by rfl, ?_⟩) ?_ ?_
            rotate_left
            ·
             intro w'
             go_simp
             with_reducible rfl
            rotate_left
            ·
             simp only [Act.put, List.setIfInBounds_toArray, List.set_cons_zero, List.set_cons_succ, i64_w, i32_w]
             rfl
            refine pure_ (i := 5) (N := some 104) (v := ?_) (a' := ?_) #[tt, tt, tt, tt, tt, tt, ff, ff, ff, ff, ff, ff, ff, ff, ff] rfl rfl (any_of HT_.out (by kernel_rfl)) (fun _ _ _ h => h) (Or.inl ⟨by rfl, ?_⟩) ?_ ?_
            rotate_left
            ·
             intro w'
             go_simp
             with_reducible rfl
            rotate_left
            ·
             simp only [Act.put, List.setIfInBounds_toArray, List.set_cons_zero, List.set_cons_succ, i64_w, i32_w]
             rfl
            refine pure_ (i := 6) (N := some 105) (v := ?_) (a' := ?_) #[tt, tt, tt, tt, tt, tt, tt, ff, ff, ff, ff, ff, ff, ff, ff] rfl rfl (any_of HT_.out (by kernel_rfl)) (fun _ _ _ h => h) (Or.inl ⟨by rfl, ?_⟩) ?_ ?_
            rotate_left
            ·
             intro w'
             go_simp
             with_reducible rfl
            rotate_left
            ·
             simp only [Act.put, List.setIfInBounds_toArray, List.set_cons_zero, List.set_cons_succ, i64_w, i32_w]
             rfl
            refine pure_ (i := 7) (N := some 106) (v := ?_) (a' := ?_) #[tt, tt, tt, tt, tt, tt, tt, tt, ff, ff, ff, ff, ff, ff, ff] rfl rfl (any_of HT_.out (by kernel_rfl)) (fun _ _ _ h => h) (Or.inl ⟨by rfl, ?_⟩) ?_ ?_
            rotate_left
            ·
             intro w'
             go_simp
             with_reducible rfl
            rotate_left
            ·
             simp only [Act.put, List.setIfInBounds_toArray, List.set_cons_zero, List.set_cons_succ, i64_w, i32_w]
             rfl
            refine pure_ (i := 9) (N := some 108) (v := ?_) (a' := ?_) #[tt, tt, tt, tt, tt, tt, tt, tt, ff, tt, ff, ff, ff, ff, ff] rfl rfl (any_of HT_.out (by kernel_rfl)) (fun _ _ _ h => h) (Or.inl ⟨by rfl, ?_⟩) ?_ ?_
            rotate_left
            ·
             intro w'
             go_simp
             with_reducible rfl
            rotate_left
            ·
             simp only [Act.put, List.setIfInBounds_toArray, List.set_cons_zero, List.set_cons_succ, i64_w, i32_w]
             rfl
            refine pure_ (i := 10) (N := some 109) (v := ?_) (a' := ?_) #[tt, tt, tt, tt, tt, tt, tt, tt, ff, tt, tt, ff, ff, ff, ff] rfl rfl (any_of HT_.out (by kernel_rfl)) (fun _ _ _ h => h) (Or.inl ⟨by rfl, ?_⟩) ?_ ?_
            rotate_left
            ·
             intro w'
             go_simp
             with_reducible rfl
            rotate_left
            ·
             simp only [Act.put, List.setIfInBounds_toArray, List.set_cons_zero, List.set_cons_succ, i64_w, i32_w]
             rfl
            refine pure_ (i := 11) (N := some 110) (v := ?_) (a' := ?_) #[tt, tt, tt, tt, tt, tt, tt, tt, ff, tt, tt, tt, ff, ff, ff] rfl rfl (any_of HT_.out (by kernel_rfl)) (fun _ _ _ h => h) (Or.inl ⟨by rfl, ?_⟩) ?_ ?_
            rotate_left
            ·
             intro w'
             go_simp
             with_reducible rfl
            rotate_left
            ·
             simp only [Act.put, List.setIfInBounds_toArray, List.set_cons_zero, List.set_cons_succ, i64_w, i32_w]
             rfl
            refine take_ (i := 8) (N := some 107) (v := ?_) (a' := ?_) #[tt, tt, tt, tt, tt, tt, tt, tt, tt, tt, tt, tt, ff, ff, ff] rfl rfl (take_ofW HT_.out HW_.out (by kernel_rfl)) (fun _ _ _ h => h) (Or.inl ⟨by rfl, ?_⟩) hHeld ?_ ?_
            rotate_left
            ·
             rintro w' ⟨s0, s1, s2, s3, s4, s5, s6, s7, s8, s9, s10, s11, s12, s13, s14, s15, s16, s17, s18, s19, s20, s21, s22, s23, s24, s25⟩
             go_simp
             with_reducible rfl
            rotate_left
            ·
             simp only [Act.put, List.setIfInBounds_toArray, List.set_cons_zero, List.set_cons_succ, i64_w, i32_w]
             rfl
            refine take_ (i := 12) (N := some 111) (v := ?_) (a' := ?_) #[tt, tt, tt, tt, tt, tt, tt, tt, tt, tt, tt, tt, tt, ff, ff] rfl rfl (take_ofW HT_.out HW_.out (by kernel_rfl)) (fun _ _ _ h => h) (Or.inl ⟨by rfl, ?_⟩) hHeld ?_ ?_
            rotate_left
            ·
             rintro w' ⟨s0, s1, s2, s3, s4, s5, s6, s7, s8, s9, s10, s11, s12, s13, s14, s15, s16, s17, s18, s19, s20, s21, s22, s23, s24, s25⟩
             go_simp
             with_reducible rfl
            rotate_left
            ·
             simp only [Act.put, List.setIfInBounds_toArray, List.set_cons_zero, List.set_cons_succ, i64_w, i32_w]
             rfl
            refine pure_ (i := 13) (N := some 112) (v := ?_) (a' := ?_) #[tt, tt, tt, tt, tt, tt, tt, tt, tt, tt, tt, tt, tt, tt, ff] rfl rfl (any_of HT_.out (by kernel_rfl)) (fun _ _ _ h => h) (Or.inl ⟨by rfl, ?_⟩) ?_ ?_
            rotate_left
            ·
             intro w'
             go_simp
             with_reducible rfl
            rotate_left
            ·
             simp only [Act.put, List.setIfInBounds_toArray, List.set_cons_zero, List.set_cons_succ, i64_w, i32_w]
             rfl
            refine pure_ (i := 14) (N := some 113) (v := ?_) (a' := ?_) #[tt, tt, tt, tt, tt, tt, tt, tt, tt, tt, tt, tt, tt, tt, tt] rfl rfl (any_of HT_.out (by kernel_rfl)) (fun _ _ _ h => h) (Or.inl ⟨by rfl, ?_⟩) ?_ ?_
            rotate_left
            ·
             intro w'
             go_simp
             with_reducible rfl
            rotate_left
            ·
             simp only [Act.put, List.setIfInBounds_toArray, List.set_cons_zero, List.set_cons_succ, i64_w, i32_w]
             rfl
            refine done_ (done_of HT_.out (by kernel_rfl)) ?_
            try go_wp2
            go_roundg k4
            case measure => have := HJ2.out; have := HJ21.out; have := HJ43.out; have := HK4.out; omega
            case rel => exact ⟨(x12_4), (wrap64 (x13_4 + 1)), xR, xR, H', ⟨by have := HJ2.out; have := HJ21.out; have := HJ43.out; have := HK4.out; omega⟩, ⟨by (with_reducible repeat (first | apply Kd.R_alloc | apply Kd.R_drewN | apply Kd.R_drew)); exact HO_6.out⟩, ⟨by (with_reducible repeat (first | apply Kd.R_alloc | apply Kd.R_drewN | apply Kd.R_drew)); exact HO_8.out⟩, ⟨by (with_reducible repeat (first | refine blk_drewN ?_ _ | refine blk_drew ?_ | refine blk_alloc ?_ _)); exact BK101.out⟩, ⟨xB⟩⟩
           rw [if_neg c50] at H
           have c50b0 := decide_eq_false c50
           clear c50
           have H' := Aside0.mk H
           clear H
           obtain ⟨Ao60, co60, eo60⟩ := Kd.R_slice HO_8.out
           subst eo60
           try go_wp2
           have n0_ := Aside0.mk (Kd.R_drew HO_6.out)
           have n1_ := Aside0.mk (Kd.R_drew HO_8.out)
           have n2_ := Aside0.mk (blk_drew BK101.out)
           have n3_ := Aside0.mk (below_drew1 HB.out)
           clear HO_6
           clear HO_8
           clear BK101
           clear HB
           have HO_6 := n0_
           have HO_8 := n1_
           have BK101 := n2_
           have HB := n3_
           clear n0_ n1_ n2_ n3_
           obtain ⟨Ao62, co62, eo62⟩ := Kd.R_slice HO_6.out
           (first | subst eo62 | (injection eo62 with f1_ f2_ f3_; have f4_ := f1_.symm; have f5_ := f3_.symm; clear f1_ f2_ f3_; subst f4_; subst f5_))
           refine start_ (n := 15) (S := fun w' => True) (ds := []) #[ff, ff, ff, ff, ff, ff, ff, ff, ff, ff, ff, ff, ff, ff, ff] (by kernel_rfl) rfl rfl trivial (fun hHeld => ?_); refine with_tabW armadalaw18_BumpMore.tab19 armadalaw18_BumpMore.bits19 (fun HT_ HW_ => ?_)
           generalize wr.drew = w61 at HO_6 HO_8 BK101 HB hHeld ⊢
           refine pure_ (i := 0) (N := some 99) (v := ?_) (a' := ?_) #[tt, ff, ff, ff, ff, ff, ff, ff, ff, ff, ff, ff, ff, ff, ff] rfl rfl (any_of HT_.out (by kernel_rfl)) (fun _ _ _ h => h) (Or.inl ⟨by rfl, ?_⟩) ?_ ?_
           rotate_left
           ·
            intro w'
            go_simp
            with_reducible rfl
           rotate_left
           ·
            simp only [Act.put, List.setIfInBounds_toArray, List.set_cons_zero, List.set_cons_succ, i64_w, i32_w]
            rfl
           refine pure_ (i := 1) (N := some 100) (v := ?_) (a' := ?_) #[tt, tt, ff, ff, ff, ff, ff, ff, ff, ff, ff, ff, ff, ff, ff] rfl rfl (any_of HT_.out (by kernel_rfl)) (fun _ _ _ h => h) (Or.inl ⟨by rfl, ?_⟩) ?_ ?_
           rotate_left
           ·
            intro w'
            go_simp
            with_reducible rfl
           rotate_left
           ·
            simp only [Act.put, List.setIfInBounds_toArray, List.set_cons_zero, List.set_cons_succ, i64_w, i32_w]
            rfl
           refine pure_ (i := 2) (N := some 101) (v := ?_) (a' := ?_) #[tt, tt, tt, ff, ff, ff, ff, ff, ff, ff, ff, ff, ff, ff, ff] rfl rfl (any_of HT_.out (by kernel_rfl)) (fun _ _ _ h => h) (Or.inl ⟨by rfl, ?_⟩) ?_ ?_
           rotate_left
           ·
            intro w'
            go_simp
            with_reducible rfl
           rotate_left
           ·
            simp only [Act.put, List.setIfInBounds_toArray, List.set_cons_zero, List.set_cons_succ, i64_w, i32_w]
            rfl
           refine pure_ (i := 3) (N := some 102) (v := ?_) (a' := ?_) #[tt, tt, tt, tt, ff, ff, ff, ff, ff, ff, ff, ff, ff, ff, ff] rfl rfl (any_of HT_.out (by kernel_rfl)) (fun _ _ _ h => h) (Or.inl ⟨by rfl, ?_⟩) ?_ ?_
           rotate_left
           ·
            intro w'
            go_simp
            with_reducible rfl
           rotate_left
           ·
            simp only [Act.put, List.setIfInBounds_toArray, List.set_cons_zero, List.set_cons_succ, i64_w, i32_w]
            rfl
           refine pure_ (i := 4) (N := some 103) (v := ?_) (a' := ?_) #[tt, tt, tt, tt, tt, ff, ff, ff, ff, ff, ff, ff, ff, ff, ff] rfl rfl (any_of HT_.out (by kernel_rfl)) (fun _ _ _ h => h) (Or.inl ⟨by rfl, ?_⟩) ?_ ?_
           rotate_left
           ·
            intro w'
            go_simp
            with_reducible rfl
           rotate_left
           ·
            simp only [Act.put, List.setIfInBounds_toArray, List.set_cons_zero, List.set_cons_succ, i64_w, i32_w]
            rfl
           refine pure_ (i := 5) (N := some 104) (v := undef) (a' := ?_) #[tt, tt, tt, tt, tt, tt, ff, ff, ff, ff, ff, ff, ff, ff, ff] rfl rfl (any_of HT_.out (by kernel_rfl)) (fun _ _ _ h => h) (Or.inr ⟨by rfl, rfl⟩) ?_ ?_
           rotate_left
           ·
            simp only [Act.put, List.setIfInBounds_toArray, List.set_cons_zero, List.set_cons_succ, i64_w, i32_w]
            rfl
           refine pure_ (i := 6) (N := some 105) (v := undef) (a' := ?_) #[tt, tt, tt, tt, tt, tt, tt, ff, ff, ff, ff, ff, ff, ff, ff] rfl rfl (any_of HT_.out (by kernel_rfl)) (fun _ _ _ h => h) (Or.inr ⟨by rfl, rfl⟩) ?_ ?_
           rotate_left
           ·
            simp only [Act.put, List.setIfInBounds_toArray, List.set_cons_zero, List.set_cons_succ, i64_w, i32_w]
            rfl
           refine pure_ (i := 7) (N := some 106) (v := undef) (a' := ?_) #[tt, tt, tt, tt, tt, tt, tt, tt, ff, ff, ff, ff, ff, ff, ff] rfl rfl (any_of HT_.out (by kernel_rfl)) (fun _ _ _ h => h) (Or.inr ⟨by rfl, rfl⟩) ?_ ?_
           rotate_left
           ·
            simp only [Act.put, List.setIfInBounds_toArray, List.set_cons_zero, List.set_cons_succ, i64_w, i32_w]
            rfl
           refine pure_ (i := 8) (N := some 107) (v := undef) (a' := ?_) #[tt, tt, tt, tt, tt, tt, tt, tt, tt, ff, ff, ff, ff, ff, ff] rfl rfl (any_of HT_.out (by kernel_rfl)) (fun _ _ _ h => h) (Or.inr ⟨by rfl, rfl⟩) ?_ ?_
           rotate_left
           ·
            simp only [Act.put, List.setIfInBounds_toArray, List.set_cons_zero, List.set_cons_succ, i64_w, i32_w]
            rfl
           refine pure_ (i := 9) (N := some 108) (v := undef) (a' := ?_) #[tt, tt, tt, tt, tt, tt, tt, tt, tt, tt, ff, ff, ff, ff, ff] rfl rfl (any_of HT_.out (by kernel_rfl)) (fun _ _ _ h => h) (Or.inr ⟨by rfl, rfl⟩) ?_ ?_
           rotate_left
           ·
            simp only [Act.put, List.setIfInBounds_toArray, List.set_cons_zero, List.set_cons_succ, i64_w, i32_w]
            rfl
           refine pure_ (i := 10) (N := some 109) (v := undef) (a' := ?_) #[tt, tt, tt, tt, tt, tt, tt, tt, tt, tt, tt, ff, ff, ff, ff] rfl rfl (any_of HT_.out (by kernel_rfl)) (fun _ _ _ h => h) (Or.inr ⟨by rfl, rfl⟩) ?_ ?_
           rotate_left
           ·
            simp only [Act.put, List.setIfInBounds_toArray, List.set_cons_zero, List.set_cons_succ, i64_w, i32_w]
            rfl
           refine pure_ (i := 11) (N := some 110) (v := undef) (a' := ?_) #[tt, tt, tt, tt, tt, tt, tt, tt, tt, tt, tt, tt, ff, ff, ff] rfl rfl (any_of HT_.out (by kernel_rfl)) (fun _ _ _ h => h) (Or.inr ⟨by rfl, rfl⟩) ?_ ?_
           rotate_left
           ·
            simp only [Act.put, List.setIfInBounds_toArray, List.set_cons_zero, List.set_cons_succ, i64_w, i32_w]
            rfl
           refine pure_ (i := 12) (N := some 111) (v := undef) (a' := ?_) #[tt, tt, tt, tt, tt, tt, tt, tt, tt, tt, tt, tt, tt, ff, ff] rfl rfl (any_of HT_.out (by kernel_rfl)) (fun _ _ _ h => h) (Or.inr ⟨by rfl, rfl⟩) ?_ ?_
           rotate_left
           ·
            simp only [Act.put, List.setIfInBounds_toArray, List.set_cons_zero, List.set_cons_succ, i64_w, i32_w]
            rfl
           refine pure_ (i := 13) (N := some 112) (v := undef) (a' := ?_) #[tt, tt, tt, tt, tt, tt, tt, tt, tt, tt, tt, tt, tt, tt, ff] rfl rfl (any_of HT_.out (by kernel_rfl)) (fun _ _ _ h => h) (Or.inr ⟨by rfl, rfl⟩) ?_ ?_
           rotate_left
           ·
            simp only [Act.put, List.setIfInBounds_toArray, List.set_cons_zero, List.set_cons_succ, i64_w, i32_w]
            rfl
           refine pure_ (i := 14) (N := some 113) (v := ?_) (a' := ?_) #[tt, tt, tt, tt, tt, tt, tt, tt, tt, tt, tt, tt, tt, tt, tt] rfl rfl (any_of HT_.out (by kernel_rfl)) (fun _ _ _ h => h) (Or.inl ⟨by rfl, ?_⟩) ?_ ?_
           rotate_left
           ·
            intro w'
            go_simp
            with_reducible rfl
           rotate_left
           ·
            simp only [Act.put, List.setIfInBounds_toArray, List.set_cons_zero, List.set_cons_succ, i64_w, i32_w]
            rfl
           refine done_ (done_of HT_.out (by kernel_rfl)) ?_
           try go_wp2
           go_roundg k4
           case measure => have := HJ2.out; have := HJ21.out; have := HJ43.out; have := HK4.out; omega
           case rel => exact ⟨(x12_4), (wrap64 (x13_4 + 1)), xR, xR, H', ⟨by have := HJ2.out; have := HJ21.out; have := HJ43.out; have := HK4.out; omega⟩, ⟨by (with_reducible repeat (first | apply Kd.R_alloc | apply Kd.R_drewN | apply Kd.R_drew)); exact HO_6.out⟩, ⟨by (with_reducible repeat (first | apply Kd.R_alloc | apply Kd.R_drewN | apply Kd.R_drew)); exact HO_8.out⟩, ⟨by (with_reducible repeat (first | refine blk_drewN ?_ _ | refine blk_drew ?_ | refine blk_alloc ?_ _)); exact BK101.out⟩, ⟨xB⟩⟩
          rw [if_neg c49] at H
          have c49b0 := decide_eq_false c49
          clear c49
          by_cases c63 : x12_4 = (t113.length : Int)
          ·
           rw [if_pos c63] at H
           have c63b0 := beq_iff_eq.mpr c63
           have c63b1 := bne_eq_false_iff_eq.mpr c63
           clear c63
           replace H := xb H
           obtain ⟨t131, A64, H⟩ := H
           obtain rfl := Option.some.inj H
           obtain ⟨Ao65, co65, eo65⟩ := Kd.R_slice HO_8.out
           subst eo65
           obtain ⟨Ao66, co66, eo66⟩ := Kd.R_slice HO_6.out
           subst eo66
           go_wp2_with (first | (go_at_call 9; (with_reducible refine (armadalaw18_live.calls  t131 _ ?side1 ?side2 A64.out).mono ?_); (case side1 => exact GW.below HGW.out xB); (case side2 => exact HTRU_.out); rintro e w67 ⟨rfl, hb⟩; replace HO_6 := Aside0.mk (Kd.R_below (by (with_reducible repeat (first | apply Kd.R_alloc | apply Kd.R_drewN | apply Kd.R_drew)); exact HO_6.out) hb); replace HO_8 := Aside0.mk (Kd.R_below (by (with_reducible repeat (first | apply Kd.R_alloc | apply Kd.R_drewN | apply Kd.R_drew)); exact HO_8.out) hb); replace BK101 := Aside0.mk (blk_below (g := gb101) (o := .cells #[.slice A0_0 l0_0.length c0_0, .slice A0_1 l0_1.length c0_1, .slice A0_2 l0_2.length c0_2, .slice A0_3 l0_3.length c0_3] 42 (0, 0)) xK hb); replace HB := Aside0.mk (below_step xB hb); (try clear hb); (try clear hb2); (try clear hk); (try clear hi)))
           go_ret
           exact ⟨by first | rfl | (simp [errW_none, errW_some] <;> rfl) | (simp [*, errW_none, errW_some] <;> rfl) | (simp [isEmpty_bne]; done), xB⟩
          rw [if_neg c63] at H
          have c63b0 := beq_eq_false_iff_ne.mpr c63
          have c63b1 := bne_iff_ne.mpr c63
          exact absurd ((Option.some.inj H).trans HTRU_.out) (by decide)
     rw [if_neg c43] at H
     have c43b0 := beq_eq_false_iff_ne.mpr c43
     have c43b1 := bne_iff_ne.mpr c43
     by_cases c68 : (t120.length : Int) = 0
     ·
      rw [if_pos c68] at H
      have c68b0 := beq_iff_eq.mpr c68
      have c68b1 := bne_eq_false_iff_eq.mpr c68
      clear c68
      replace H := xb H
      obtain ⟨t128, A69, H⟩ := H
      obtain rfl := Option.some.inj H
      obtain ⟨Ao70, co70, eo70⟩ := Kd.R_slice HO_8.out
      subst eo70
      go_wp2_with (first | (go_at_call 9; (with_reducible refine (armadalaw18_live.calls  t128 _ ?side1 ?side2 A69.out).mono ?_); (case side1 => exact GW.below HGW.out xB); (case side2 => exact HTRU_.out); rintro e w71 ⟨rfl, hb⟩; replace HO_6 := Aside0.mk (Kd.R_below (by (with_reducible repeat (first | apply Kd.R_alloc | apply Kd.R_drewN | apply Kd.R_drew)); exact HO_6.out) hb); replace HO_8 := Aside0.mk (Kd.R_below (by (with_reducible repeat (first | apply Kd.R_alloc | apply Kd.R_drewN | apply Kd.R_drew)); exact HO_8.out) hb); replace BK101 := Aside0.mk (blk_below (g := gb101) (o := .cells #[.slice A0_0 l0_0.length c0_0, .slice A0_1 l0_1.length c0_1, .slice A0_2 l0_2.length c0_2, .slice A0_3 l0_3.length c0_3] 42 (0, 0)) xK hb); replace HB := Aside0.mk (below_step xB hb); (try clear hb); (try clear hb2); (try clear hk); (try clear hi)))
      go_ret
      exact ⟨by first | rfl | (simp [errW_none, errW_some] <;> rfl) | (simp [*, errW_none, errW_some] <;> rfl) | (simp [isEmpty_bne]; done), xB⟩
     rw [if_neg c68] at H
     have c68b0 := beq_eq_false_iff_ne.mpr c68
     have c68b1 := bne_iff_ne.mpr c68
     have c68b2 : ¬ (t120 = []) := fun h_ => c68 (by rw [h_]; rfl)
     exact absurd ((Option.some.inj H).trans HTRU_.out) (by decide)
end Go.Proofs.YtillhaipemengaaGreatDoor.LMore
end

section
namespace Go.Proofs.YtillhaipemengaaGreatDoor.LMore
open Go.RowKit Go.Proofs.YtillhaipemengaaGreatDoor Go.Proofs.YtillhaipemengaaGreatDoor.K0 Go.Proofs.YtillhaipemengaaGreatDoor.RD Go.Proofs.YtillhaipemengaaGreatDoor.RS Go.Proofs.YtillhaipemengaaGreatDoorW.PrintWords Go.Proofs.YtillhaipemengaaGreatDoorW.PrintLast Go.Proofs.YtillhaipemengaaGreatDoorW.PrintMore
attribute [local go_sem] max2_int min2_int max_two min_two max_three min_three max_four min_four
set_option linter.unusedVariables false
set_option linter.unusedSimpArgs false
end Go.Proofs.YtillhaipemengaaGreatDoor.LMore
end

section
namespace Go.Proofs.YtillhaipemengaaGreatDoor
open Go Go.RowKit Go.Proofs Go.Proofs.YtillhaipemengaaGreatDoorW.PrintWords Go.Proofs.YtillhaipemengaaGreatDoor.K0 Go.Proofs.YtillhaipemengaaGreatDoor.RS Go.Proofs.YtillhaipemengaaGreatDoor.LMore Go.Proofs.YtillhaipemengaaGreatDoor.Sm
set_option linter.unusedVariables false
set_option linter.unusedSimpArgs false
theorem eqRl (x y : Rl) : ((x.f0 == y.f0) && ((x.f1 == y.f1) && (((x.f2.f0 == y.f2.f0) && ((x.f2.f1 == y.f2.f1) && ((x.f2.f2 == y.f2.f2) && ((x.f2.f3.toList == y.f2.f3.toList) && (x.f2.f4.toList == y.f2.f4.toList))))) && (((x.f3.f0 == y.f3.f0) && ((x.f3.f1 == y.f3.f1) && ((x.f3.f2 == y.f3.f2) && ((x.f3.f3.toList == y.f3.f3.toList) && (x.f3.f4.toList == y.f3.f4.toList))))) && (x.f4 == y.f4))))) = decide (x = y) := by
  obtain ⟨a0, a1, ⟨b0, b1, b2, b3, b4⟩, ⟨c0, c1, c2, c3, c4⟩, a4⟩ := x
  obtain ⟨d0, d1, ⟨e0, e1, e2, e3, e4⟩, ⟨g0, g1, g2, g3, g4⟩, d4⟩ := y
  rw [Bool.eq_iff_iff]
  simp only [Bool.and_eq_true, beq_iff_eq, ba_list, decide_eq_true_eq, S30.mk.injEq, S26.mk.injEq]
theorem more_l0 (a b : List Rl) (ha : a.length ≤ 1000) (hb : b.length ≤ 1000) : ∀ (d n m : Nat), b.length - n = d → n ≤ b.length → m ≤ a.length → (a.drop m).Sublist (b.drop n) → Ev (fun k => armadalaw18_BumpMore.l0 k a b (m : Int) (n : Int)) true := by
  intro d
  induction d with
  | zero =>
    intro n m hd hn hm hs
    have : n = b.length := by omega
    subst this
    rw [List.drop_eq_nil_of_le (Nat.le_refl _)] at hs
    have h1 := List.eq_nil_of_sublist_nil hs
    have h2 : m = a.length := by
      have := congrArg List.length h1
      rw [List.length_drop, List.length_nil] at this
      omega
    refine Ev.step (fun k => ?_) live18
    simp only [armadalaw18_BumpMore.l0]
    rw [if_neg (by omega), if_pos (by omega)]
  | succ d ih =>
    intro n m hd hn hm hs
    obtain ⟨y, h1, h2, h3⟩ := rdL_at (l := b) (n := n) (by omega)
    rw [h2] at hs
    by_cases hma : m < a.length
    · obtain ⟨x, g1, g2, g3⟩ := rdL_at (l := a) (n := m) hma
      have hal := hs.length_le
      rw [List.length_drop, List.length_cons, List.length_drop] at hal
      rw [g2] at hs
      by_cases hxy : x = y
      · subst hxy
        refine Ev.step (fun k => ?_) (ih (n + 1) (m + 1) (by omega) (by omega) (by omega) (List.cons_sublist_cons.1 hs))
        simp only [armadalaw18_BumpMore.l0]
        rw [if_pos (by omega), if_pos (by omega), if_pos (by omega), if_pos (by omega), h1, g1, eqRl, decide_eq_true rfl, if_pos rfl, wrap_s (by omega), wrap_s (by omega)]
      · have hs2 : (a.drop m).Sublist (b.drop (n + 1)) := by
          rw [g2]
          cases hs with
          | cons _ h => exact h
          | cons_cons _ h => exact absurd rfl hxy
        refine Ev.step (fun k => ?_) (ih (n + 1) m (by omega) (by omega) hm hs2)
        simp only [armadalaw18_BumpMore.l0]
        rw [if_pos (by omega), if_pos (by omega), if_pos (by omega), if_pos (by omega), h1, g1, eqRl, decide_eq_false hxy, if_neg (by simp), wrap_s (by omega)]
    · have hs2 : (a.drop m).Sublist (b.drop (n + 1)) := by
        rw [List.drop_eq_nil_of_le (by omega)]; exact List.nil_sublist _
      refine Ev.step (fun k => ?_) (ih (n + 1) m (by omega) (by omega) hm hs2)
      simp only [armadalaw18_BumpMore.l0]
      rw [if_pos (by omega), if_neg (by omega), wrap_s (by omega)]
theorem more_ev (l0 : List Md) (l1 : List Tg) (l2 : List Int) (l3 : List WtR) (z : Int) (h0 : l0.length ≤ 9223372036854775807) (hs : Short l0) (h1 : l1.length ≤ 9223372036854775807) (h3 : l3.length ≤ 9223372036854775807) : Ev (fun k => armadalaw18_BumpMore.f k l0 l1 l2 l3 z) true := by
  obtain ⟨b, hb, hB⟩ := small18 l0 l1 l2 l3 h0 hs h1 h3
  have hlive : ∀ c : Bool, c = true → Ev (fun k => armadalaw18_BumpMore.j0 k z c l0 l1 l2 l3) true := by
    rintro _ rfl
    refine Ev.step (fun k => ?_) live18
    simp only [armadalaw18_BumpMore.j0, if_true]
  unfold armadalaw18_BumpMore.f
  refine Ev.bind hb ?_
  cases b with
  | false => simp only [Bool.false_eq_true, if_false]; exact hlive _ rfl
  | true =>
    simp only [if_true]
    obtain ⟨b0, bR, b1, b2, b3⟩ := hB rfl
    by_cases hc : (l2.length : Int) > 29
    · exact hlive _ (decide_eq_true hc)
    simp only [decide_eq_false hc]
    have hw := own18 l3 (by omega)
    have hw3 : (l3.map toWt).length ≤ 20 := by rw [List.length_map]; exact b3
    generalize l3.map toWt = ws at hw hw3
    have hj2 : ∀ a b : List Rl, a.Sublist b → b.length ≤ 1000 → Ev (fun k => armadalaw18_BumpMore.j2 k a b false) true := fun a b hab hbl => by
      refine Ev.step (fun k => ?_) (more_l0 a b (Nat.le_trans hab.length_le hbl) hbl _ 0 0 rfl (Nat.zero_le _) (Nat.zero_le _) hab)
      simp only [armadalaw18_BumpMore.j2]
      rw [if_neg (by simp)]
      rfl
    have hj1 : Ev (fun k => armadalaw18_BumpMore.j1 k (relOf l0 l1 l2 ws).1 (relOf l0 l1 l2 ws).2 (relOf l0 l1 (l2 ++ [z]) ws).1 (relOf l0 l1 (l2 ++ [z]) ws).2 false) true := by
      by_cases hf : (relOf l0 l1 (l2 ++ [z]) ws).2 = 0
      · obtain ⟨a, ha, hab⟩ := rel_more (b := (relOf l0 l1 (l2 ++ [z]) ws).1) (Prod.ext rfl hf)
        have hlen := relOf_len l0 l1 (l2 ++ [z]) ws
        refine Ev.step (fun k => ?_) (hj2 _ _ hab (by omega))
        simp only [armadalaw18_BumpMore.j1]
        rw [if_neg (by simp), if_pos hf, ha]
        have hle := hab.length_le
        rw [if_pos rfl, decide_eq_false (show ¬ ((a.length : Int) > ((relOf l0 l1 (l2 ++ [z]) ws).1.length : Int)) by omega)]
      · refine Ev.step (fun k => ?_) live18
        simp only [armadalaw18_BumpMore.j1]
        rw [if_neg (by simp), if_neg hf, relOf_bad hf]
        exact if_pos rfl
    refine Ev.step (f := fun k => (armadalaw18_own.f k l3).bind fun t110 => (bump_Releases.f l0 l1 l2 t110).bind fun bt113 => (armadalaw18_own.f k l3).bind fun t117 => (bump_Releases.f l0 l1 (l2 ++ [z]) t117).bind fun bt120 => (bump_Releases.f l0 l1 [] []).bind fun bt124 => if (bt124.1.length : Int) = 0 then (if bt124.2 = 0 then armadalaw18_BumpMore.j1 k bt113.1 bt113.2 bt120.1 bt120.2 false else armadalaw18_BumpMore.j1 k bt113.1 bt113.2 bt120.1 bt120.2 (bt113.2 == 0)) else armadalaw18_BumpMore.j1 k bt113.1 bt113.2 bt120.1 bt120.2 true) (fun k => ?_) ?_
    · simp only [armadalaw18_BumpMore.j0]
      rw [if_neg (by simp), if_pos (by simp; omega)]
      simp only [Option.bind_some, List.nil_append]
      rw [if_pos (by omega)]
    · refine Ev.bind hw ?_
      rw [rel18 b0 b1 (by omega) hw3]
      simp only [Option.bind_some]
      refine Ev.bind hw ?_
      rw [rel18 b0 b1 (by rw [List.length_append]; simp; omega) hw3, rel18 b0 b1 (by simp) (by simp)]
      simp only [Option.bind_some]
      obtain ⟨n1, n2⟩ := rel_none (l := l0) (tg := l1)
      rw [n1, n2]
      have hz : ((([] : List Rl).length : Nat) : Int) = 0 := rfl
      simp only [hz, if_true]
      by_cases ho : (ordG l0).2 = 0
      · simp only [ho, if_true]; exact hj1
      · have := rel_ord (tg := l1) (ch := l2) (ws := ws) ho
        simp only [ho, if_false]
        rw [show ((relOf l0 l1 l2 ws).2 == 0) = false from by simpa using this]
        exact hj1
theorem bumpMore_pure (l0 : List Md) (l1 : List Tg) (l2 : List Int) (l3 : List WtR) (z : Int) (h0 : l0.length ≤ 9223372036854775807) (hs : Short l0) (h1 : l1.length ≤ 9223372036854775807) (h3 : l3.length ≤ 9223372036854775807) : ∃ k, armadalaw18_BumpMore.f k l0 l1 l2 l3 z = some true := by
  obtain ⟨K, hK⟩ := more_ev l0 l1 l2 l3 z h0 hs h1 h3
  exact ⟨K, hK K (Nat.le_refl _)⟩
end Go.Proofs.YtillhaipemengaaGreatDoor
end

section
namespace Go.Proofs.YtillhaipemengaaGreatDoor
open Go Go.ChangeShapes Go.WideShapes Go.ChangeAt Go.RowKit Go.Joins Go.Deep Go.Proofs.YtillhaipemengaaGreatDoor.LMore
set_option linter.unusedVariables false
set_option maxRecDepth 100000 in
theorem bumpMore_lifted (os : Os) (started : os.Started) (H : Type) (enc : TypeId × Value → H) :
    ReturnsInHanded {} Tryz.checked os 6 .any (fun w args => (Rows.bumpMoreSpec.pre enc Tryz.prog Tryz.f6 Rows.bumpMoreRow.domain false w args ∧ laidMetH Tryz.prog Rows.bumpMoreRow.laid w) ∧ sizedMet enc Tryz.prog Tryz.f6 (OpenSpec.ofChange Rows.bumpMoreSpec) false w args)
      (Rows.bumpMoreSpec.post enc Tryz.prog Tryz.f6 false true false false) := by
  refine lifted_of (C := Tryz.checked) (tb := 4) laidOut rfl own started (by kernel_rfl) Tryz.func6 (by kernel_rfl) (by kernel_rfl) Tryz.underlying4 ?_
    (ChangeSpec.witness_shaped (enc := enc) (C := Tryz.checked) (os := os) (X := fun w _ => laidMetH Tryz.prog Rows.bumpMoreRow.laid w) false (World.laidAll Tryz.prog os Rows.bumpMoreRow.laid) #[.agg #[.slice none 0 0, .slice none 0 0, .slice none 0 0, .slice none 0 0], .int .i64 0] 8 (World.laidAll_os _ _ _)
      (World.shaped_of_ZipB (by kernel_rfl) (by kernel_rfl)) (by kernel_rfl) (by kernel_rfl) (by kernel_rfl)
      (by rw [MakeChecks.laidMetH_plain _ _ _ (by kernel_rfl)]; exact laidMet_laidAll _ (by kernel_rfl) (by kernel_rfl))) ?_
  · intro ds hd
    match ds, hd.trans (show Tryz.f6.params.size = 2 by kernel_rfl) with
    | [_, _], _ => rfl
  · intro W base args ds ps hval0 hA0 hz hsh hL
    have hval : ∀ (j : Nat) t v, Tryz.f6.params[j]? = some t → args[j]? = some v → Value.okWide Tryz.prog W .any base t v := hval0
    have hA : DataW.TrodAll enc Tryz.prog W 0 (fun _ => true) true Tryz.f6.params.toList args.toList ds ps := hA0
    rw [Tryz.params6] at hA hval
    obtain ⟨v0, v1, d0, d1, p0, p1, rfl, rfl, rfl, h0, h1⟩ := trodAll_two hA
    obtain ⟨A0_, c0_, y0_, A1_, c1_, y1_, A2_, c2_, y2_, A3_, c3_, y3_, rfl, hr0_, hc0_, hr1_, hc1_, hr2_, hc2_, hr3_, hc3_⟩ := arg_case (hval 0 42 v0 rfl rfl) h0
    obtain ⟨x1, rfl, rfl, rfl, _⟩ := open_int Tryz.underlying3 (hval 1 3 v1 rfl rfl) h1
    obtain ⟨k, hk⟩ := bumpMore_pure y0_ y1_ y2_ y3_ x1 hr0_.2.1 (mods_short hr0_) hr1_.2.1 hr3_.2.1
    exact armadalaw18_BumpMore.calls k A0_ c0_ y0_ A1_ c1_ y1_ A2_ c2_ y2_ A3_ c3_ y3_ x1 true W hr0_ hc0_ hr1_ hc1_ hr2_ hc2_ hr3_ hc3_ (gw_of hsh hL) rfl hk
theorem bumpMore_holds : Rows.BumpMoreSaid :=
  OpenClaim.holds_of_wide 6 Tryz.f6 rfl rfl rfl rfl rfl rfl rfl ⟨rfl, rfl, rfl, rfl, rfl⟩ rfl rfl rfl rfl rfl (by kernel_rfl) Tryz.func6 (by kernel_rfl)
    (of_decide_eq_true (by kernel_rfl)) (by unfold Func.isWrapper; first | (rw [if_pos (by decide +kernel)]; kernel_rfl) | (rw [if_neg (by decide +kernel)]; exact ⟨rfl, rfl⟩))
    (fun os started H enc _ => bumpMore_lifted os started H enc)
theorem bumpMore_card : Rows.BumpMoreCardSaid :=
  Claim7.holds_tied_plain_at .later [] [.data, .data, .data, .data, .sentinel, .sentinel, .pinned] true (true, "f6bb216b3d5a21fbd52da762281c3b2ade8256e45710a715403b1dc021bf5dbc") true bumpMore_holds (fun _ h => by cases h) (by kernel_rfl) (fun _ h => by cases h) bumpMore_row_tie rfl ⟨rfl, rfl⟩ (by kernel_rfl) rfl
    (fun f fn hf hfn => by
      obtain rfl : f = 6 := Option.some.inj ((show Tryz.prog.funcNamed "armada/armadalaw18.BumpMore" = some 6 by kernel_rfl).symm.trans hf) |>.symm
      obtain rfl : fn = Tryz.f6 := (Option.some.inj (Tryz.func6.symm.trans hfn)).symm
      exact ⟨by kernel_rfl, fun j t ht => by
        rw [Tryz.params6] at ht
        have hm : t ∈ [42, 3] := by simpa using Array.mem_of_getElem? ht
        have hall : ([42, 3].all fun u => !Tryz.prog.wantsStandIn u) = true := by kernel_rfl
        exact (show Tryz.prog.wantsStandIn t = false by simpa using List.all_eq_true.1 hall t hm)⟩)
    (by kernel_rfl)
#print axioms bumpMore_card
end Go.Proofs.YtillhaipemengaaGreatDoor
end
