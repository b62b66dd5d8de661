/- The law armadalaw17.MvsAlone answers true whatever requirements it is handed, and what it was handed reads as it did; its tied card holds.
   Conditions: those of the row and the card alone: the listed variables of Go's library hold what the program's own text lays in them. -/
import Derived.Test.YtkidfclnakbgiaaGreatDoorZS9
import Derived.Test.YtkidfclnakbgiaaGreatDoorTie
import Derived.Test.YtkidfclnakbgiaaGreatDoorCards
import Derived.ProofKit
import Derived.OpenShut
import Derived.LaidMore
import Derived.Lay
import Derived.SevenTiedAt
import Derived.Stop.Joined
import Derived.Stop.LaidErr
import Derived.Carry
import Derived.Shelf.Vars
import Derived.Handed
import Derived.JoinedOf
import Derived.Test.YtkidfclnakbgiaaGreatDoorZS10
import Derived.Test.YtkidfclnakbgiaaGreatDoorZS36
import Derived.Test.YtkidfclnakbgiaaGreatDoorZS43
import Derived.Test.YtkidfclnakbgiaaGreatDoorZS40
import Derived.Test.YtkidfclnakbgiaaGreatDoorZS41
import Derived.Test.YtkidfclnakbgiaaGreatDoorZS44
import Derived.Test.YtkidfclnakbgiaaGreatDoorZS45
import Derived.Lib.SmallJoins
section
namespace Go.Proofs.YtkidfclnakbgiaaGreatDoor
open Go Go.ChangeShapes Go.WideShapes Go.ChangeAt Go.RowKit Go.Joins Go.Deep Go.Proofs.YtkidfclnakbgiaaGreatDoorW.PrintWords
set_option linter.unusedVariables false
theorem own : ownKnob Tryz.prog.godebug = none := by kernel_rfl
theorem laidOut : laidOutB Tryz.prog = true := by kernel_rfl
section
variable {H : Type} {enc : TypeId × Value → H} {P : Program}
theorem trodAll_carry (hl : laidOutB P = true) {W W' : World} (hb : Below W.heap.size W W') : ∀ {ts : List TypeId} {vs : List Value} {ds : List (DataW H)} {ps : List MemPlace},
    (ts.all fun t => P.readableRec t && decide (t < P.types.size)) = true → DataW.TrodAll enc P W 0 (fun _ => true) true ts vs ds ps → ∀ sp : Nat → Bool, (∀ p ∈ ps, sp p.block = true) → DataW.TrodAll enc P W' 0 sp true ts vs ds ps
  | [], [], [], _, _, h, _, _ => h
  | [], [], _ :: _, _, _, h, _, _ => h.elim
  | [], _ :: _, _, _, _, h, _, _ => h.elim
  | _ :: _, [], _, _, _, h, _, _ => h.elim
  | _ :: _, _ :: _, [], _, _, h, _, _ => h.elim
  | t :: ts, v :: vs, d :: ds, ps, hr, h, sp, hs => by
    have hlt := h.lt
    obtain ⟨p, q, h1, h2, rfl⟩ := h
    simp only [List.all_cons, Bool.and_eq_true, decide_eq_true_eq] at hr
    exact ⟨p, q, WideElems.Trod_stays hl hr.1.1 hr.1.2 h1 (fun x hx => hb.same (hlt x (by simp [hx]))) (fun x hx => hs x (by simp [hx])),
      trodAll_carry hl hb (by simpa using hr.2) h2 sp (fun x hx => hs x (by simp [hx])), rfl⟩
theorem post_true {f : Func} {s : ChangeSpec} {W W' : World} {args : Array Value} {ds : List (DataW H)} {before : List MemPlace} {tb : TypeId} (hl : laidOutB P = true) (hv : s.vars = [])
    (hW : DataW.Whole enc P f.params.toList s.vars false W args.toList ds [] before) (hr : (f.params.toList.all fun t => P.readableRec t && decide (t < P.types.size)) = true)
    (hres : f.resultTypes = #[tb]) (hbool : P.underlying tb = some .bool) (hfn : s.fn H (ds ++ []) = { results := [.lit (.bool true)], args := ds }) (hb : Below W.heap.size W W') :
    s.post enc P f false true false false W args (.bool true) W' := by
  have hlt := hW.lt
  obtain ⟨p, q, hA, hV, hpq, hz, hn⟩ := hW
  have hq : q = [] := by rw [hv] at hV; exact hV
  subst hq
  rw [List.append_nil] at hpq
  subst hpq
  refine ⟨ds, [], before, [], before, [], ⟨before, [], hA, hV, (List.append_nil _).symm, hz, hn⟩, ?_, ?_, ?_, hb.frame _, fun h => by cases h⟩
  · rw [hfn, hres]
    exact trodAll_mk1 (shut_bool hbool _)
  · rw [hfn]
    exact trodAll_carry hl hb hr hA _ (fun x hx => by simpa using hlt x hx)
  · rw [hfn, hv]
    exact rfl
theorem lifted_of {C : Checked} {os : Os} {f : FuncId} {fn : Func} {s : ChangeSpec} {conds : List PathCond} {laid : List (String × DataW Unit)} {tb : TypeId} (hl : laidOutB C.prog = true) (hv : s.vars = [])
    (own : ownKnob C.prog.godebug = none) (started : os.Started) (noInit : C.prog.inits.idxOf? f = none) (hfn : C.prog.funcs[f]? = some fn)
    (hr : (fn.params.toList.all fun t => C.prog.readableRec t && decide (t < C.prog.types.size)) = true)
    (hres : fn.resultTypes = #[tb]) (hbool : C.prog.underlying tb = some .bool)
    (hspec : ∀ ds : List (DataW H), ds.length = fn.params.size → s.fn H (ds ++ []) = { results := [.lit (.bool true)], args := ds })
    (witness : ∃ (w : World) (tape : Tape) (i : Input), w.os = os ∧ (w.forCall tape i).Shaped C.prog ∧ i.vars = [] ∧ Input.okWide C.prog (w.forCall tape i) .any w.heap.size f i ∧
      ((s.pre enc C.prog fn conds false (w.forCall tape i).memory i.args ∧ laidMetH C.prog laid (w.forCall tape i).memory) ∧ sizedMet enc C.prog fn (OpenSpec.ofChange s) false (w.forCall tape i).memory i.args) ∧
      ({} : Assume).holds C.prog (lone (Frame.enter C.prog f i.args .normal) [] (w.forCall tape i)))
    (law : ∀ (W : World) (base : Nat) (args : Array Value) (ds : List (DataW H)) (ps : List MemPlace),
      (∀ (j : Nat) t v, fn.params[j]? = some t → args[j]? = some v → Value.okWide C.prog W .any base t v) →
      DataW.TrodAll enc C.prog W 0 (fun _ => true) true fn.params.toList args.toList ds ps →
      (DataW.weightsEach C.prog fn.params.toList ds).all (· ≤ reachBytes) = true →
      W.ShapedOpen C.prog → laidMetH C.prog laid W →
      Calls C.prog f args W fun e W' => e = .returned (.bool true) ∧ Below W.heap.size W W') :
    ReturnsInHanded {} C os f .any (fun w args => (s.pre enc C.prog fn conds false w args ∧ laidMetH C.prog laid w) ∧ sizedMet enc C.prog fn (OpenSpec.ofChange s) false w args) (s.post enc C.prog fn false true false false) := by
  refine returnsInHanded_of_calls own started noInit witness ?_
  intro w tape i _ hsh _ hok hpre hholds
  obtain ⟨_, _, _, fn', hfn', _, _, _, _, hval⟩ := hok
  have e : fn' = fn := Option.some.inj (hfn'.symm.trans hfn)
  subst e
  obtain ⟨⟨⟨ds, gs, before, hw, hc⟩, hx⟩, hz⟩ := hpre
  have hgs : gs = [] := by
    obtain ⟨_, _, _, hV, _⟩ := hw
    rw [hv] at hV
    cases gs with
    | nil => rfl
    | cons _ _ => exact hV.elim
  subst hgs
  have hw' := DataW.Whole.of_heap (w' := w.forCall tape i) (by rfl) hw
  have hz' := hz.weights hw
  obtain ⟨p, q, hA, _⟩ := hw'
  have hlen : ∀ {ts : List TypeId} {vs : List Value} {ds : List (DataW H)} {ps : List MemPlace}, DataW.TrodAll enc C.prog (w.forCall tape i) 0 (fun _ => true) true ts vs ds ps → ds.length = ts.length := by
    intro ts
    induction ts with
    | nil => intro vs ds ps h; cases vs <;> cases ds <;> first | rfl | exact h.elim
    | cons t ts ih =>
      intro vs ds ps h
      cases vs <;> cases ds <;> first | exact h.elim | skip
      obtain ⟨_, _, _, h2, _⟩ := h
      simp [ih h2]
  have hz2 : (DataW.weightsEach C.prog fn'.params.toList ds).all (· ≤ reachBytes) = true := by
    have e1 : (OpenSpec.ofChange s).bare.plain.varTypes C.prog = [] := by
      show s.plain.varTypes C.prog = []
      unfold DataSpec.varTypes ChangeSpec.plain
      simp [hv]
    rw [e1, List.append_nil, List.append_nil] at hz'
    exact hz'
  refine (law (w.forCall tape i) w.heap.size i.args ds p hval hA hz2 hsh (hx.of_heap (by rfl))).mono fun e W' ⟨he, hb⟩ => ?_
  subst he
  refine ChangeSpec.post_blind (post_true hl hv (DataW.Whole.of_heap (w' := w.forCall tape i) (by rfl) hw) hr hres hbool (hspec ds ?_) hb)
  rw [hlen hA]; simp
end
theorem laid_mem {P : Program} {W : World} {x : String × DataW Unit} : ∀ {l : List (String × DataW Unit)}, laidMet P l W → x ∈ l → ∃ r, laidMet P (x :: r) W
  | [], _, h => by cases h
  | y :: l, hl, h => by
    rcases List.mem_cons.1 h with rfl | h'
    · exact ⟨l, hl⟩
    · exact laid_mem hl.tail h'
theorem iface_var {P : Program} {W : World} {n nm : String} {d : DataW Unit} {r : List (String × DataW Unit)} {g : Nat} {ti : TypeId} {ms : Array (String × TypeId)} (h : laidMet P ((n, .iface nm d) :: r) W)
    (hg : P.globalNamed n = some g) (ht : (P.globals[g]?).map (·.type) = some ti) (hi : P.underlying ti = some (.interface ms)) : ∃ tp p, W.var? P n = some #[.iface tp p] := by
  obtain ⟨ps, ⟨g0, t0, cs0, f0, p0, q0, hg0, ht0, hv0, hd0, _, _⟩, _, _⟩ := h
  obtain rfl := Option.some.inj (hg.symm.trans hg0)
  obtain rfl := Option.some.inj (ht.symm.trans ht0)
  obtain ⟨l0⟩ := cs0
  cases f0 with
  | zero => cases hd0
  | succ f0 =>
    unfold DataW.trod at hd0
    rw [hi] at hd0
    split at hd0 <;> first
      | (rename_i h1 h2; cases h1; done)
      | skip
    all_goals first
      | (cases hd0; done)
      | (rename_i u v h1 h2; simp only at h2; subst h2; exact ⟨u, v, hv0⟩)
      | skip
    all_goals (rename_i h1; cases h1)
section
variable {H : Type} {enc : TypeId × Value → H} {P : Program} {w : World} {base : Nat} {spare : Nat → Bool} {held : Bool}
end
/-- What the row lists gives the walk's world. -/
theorem gw_of {W : World} (h : W.ShapedOpen Tryz.prog) (hl : laidMetH Tryz.prog Rows.mvsAloneRow.laid W) : GW W := by
  rw [MakeChecks.laidMetH_plain _ _ _ (by kernel_rfl)] at hl
  obtain ⟨_, h1⟩ := laid_mem (x := ("internal/strconv.uint64pow10", Rows.laid_internal_strconv_uint64pow10)) hl (by repeat (first | exact List.mem_cons_self .. | apply List.mem_cons_of_mem))
  obtain ⟨_, h2⟩ := laid_mem (x := ("strconv.ErrRange", Rows.laid_strconv_ErrRange)) hl (by repeat (first | exact List.mem_cons_self .. | apply List.mem_cons_of_mem))
  obtain ⟨_, h3⟩ := laid_mem (x := ("strconv.ErrSyntax", Rows.laid_strconv_ErrSyntax)) hl (by repeat (first | exact List.mem_cons_self .. | apply List.mem_cons_of_mem))
  exact {
    maxLen := cell_of_shapedOpen_int (P := Tryz.prog) (g := 0) (t := 3) (zero := #[.int .i64 0]) h (of_decide_eq_true (by kernel_rfl)) (by kernel_rfl) rfl (by kernel_rfl) (by kernel_rfl) Tryz.underlying3
    pow10 := Lib.tabIs_of_head (k := .u64) (zs := Lib.pow10Tab) (g := 5) (t := 181) (e := 102) (n := 20) (by kernel_rfl) (by kernel_rfl) (by kernel_rfl) (by kernel_rfl) (by kernel_rfl) (by kernel_rfl)
      (show laidMet _ ((_, Lib.tabData .u64 Lib.pow10Tab) :: _) _ from (show Rows.laid_internal_strconv_uint64pow10 = (Lib.tabData .u64 Lib.pow10Tab : DataW Unit) from by kernel_rfl) ▸ h1)
    errS := iface_var h3 (g := 1) (ti := 130) (by kernel_rfl) (by kernel_rfl) Tryz.underlying130
    errR := iface_var h2 (g := 2) (ti := 130) (by kernel_rfl) (by kernel_rfl) Tryz.underlying130 }
end Go.Proofs.YtkidfclnakbgiaaGreatDoor
end

section
namespace Go.Proofs.YtkidfclnakbgiaaGreatDoor.LAlone
open Go.RowKit Go.Proofs.YtkidfclnakbgiaaGreatDoor Go.Proofs.YtkidfclnakbgiaaGreatDoor.K0 Go.Proofs.YtkidfclnakbgiaaGreatDoor.RD Go.Proofs.YtkidfclnakbgiaaGreatDoor.RO Go.Proofs.YtkidfclnakbgiaaGreatDoor.RS Go.Proofs.YtkidfclnakbgiaaGreatDoorW.PrintWords Go.Proofs.YtkidfclnakbgiaaGreatDoorW.PrintLast Go.Proofs.YtkidfclnakbgiaaGreatDoorW.PrintMore
attribute [local go_sem] max2_int min2_int max_two min_two max_three min_three max_four min_four
set_option linter.unusedVariables false
set_option linter.unusedSimpArgs false
end Go.Proofs.YtkidfclnakbgiaaGreatDoor.LAlone
end

section
namespace Go.Proofs.YtkidfclnakbgiaaGreatDoor.LAlone
open Go.RowKit Go.Proofs.YtkidfclnakbgiaaGreatDoor Go.Proofs.YtkidfclnakbgiaaGreatDoor.K0 Go.Proofs.YtkidfclnakbgiaaGreatDoor.RD Go.Proofs.YtkidfclnakbgiaaGreatDoor.RO Go.Proofs.YtkidfclnakbgiaaGreatDoor.RS Go.Proofs.YtkidfclnakbgiaaGreatDoorW.PrintWords Go.Proofs.YtkidfclnakbgiaaGreatDoorW.PrintLast Go.Proofs.YtkidfclnakbgiaaGreatDoorW.PrintMore
attribute [local go_sem] max2_int min2_int max_two min_two max_three min_three max_four min_four
set_option linter.unusedVariables false
set_option linter.unusedSimpArgs false
mutual
def armadalaw17_MvsAlone.l0 : Nat → List (S27) → List (S27) → List (S27) → Int → Option (Bool)
 | 0, _, _, _, _ => none
 | k + 1, x0, x3, x4, x5 => if x5 < (x3.length : Int) then (if 0 ≤ x5 then ((armadaref17_In.f k x0 ((rd_T27 x3 x5).f0) ((rd_T27 x3 x5).f1.f0) ((rd_T27 x3 x5).f1.f1) ((rd_T27 x3 x5).f1.f2) ((rd_T27 x3 x5).f1.f3) ((rd_T27 x3 x5).f1.f4)).bind fun t110 => (if t110 = true then ((armadaref17_May.f k ((rd_T27 x3 x5).f0) ((rd_T27 x3 x5).f1.f0) ((rd_T27 x3 x5).f1.f1) ((rd_T27 x3 x5).f1.f2) ((rd_T27 x3 x5).f1.f3) ((rd_T27 x3 x5).f1.f4)).bind fun t112 => (if t112 = true then (if x5 ≤ (x3.length : Int) then ((armadaref17_In.f k (x3.take (x5 : Int).toNat) ((rd_T27 x3 x5).f0) ((rd_T27 x3 x5).f1.f0) ((rd_T27 x3 x5).f1.f1) ((rd_T27 x3 x5).f1.f2) ((rd_T27 x3 x5).f1.f3) ((rd_T27 x3 x5).f1.f4)).bind fun t118 => (if t118 = true then (some false) else (armadalaw17_MvsAlone.l0 k x0 x3 x4 (wrap64 (x5 + 1))))) else (none)) else (some false))) else (some false))) else (none)) else (armadalaw17_MvsAlone.l1 k x0 x3 x4 0)
def armadalaw17_MvsAlone.l1 : Nat → List (S27) → List (S27) → List (S27) → Int → Option (Bool)
 | 0, _, _, _, _ => none
 | k + 1, x0, x3, x4, x6 => if x6 < (x0.length : Int) then (if 0 ≤ x6 then ((armadaref17_May.f k ((rd_T27 x0 x6).f0) ((rd_T27 x0 x6).f1.f0) ((rd_T27 x0 x6).f1.f1) ((rd_T27 x0 x6).f1.f2) ((rd_T27 x0 x6).f1.f3) ((rd_T27 x0 x6).f1.f4)).bind fun t120 => ((armadaref17_In.f k x3 ((rd_T27 x0 x6).f0) ((rd_T27 x0 x6).f1.f0) ((rd_T27 x0 x6).f1.f1) ((rd_T27 x0 x6).f1.f2) ((rd_T27 x0 x6).f1.f3) ((rd_T27 x0 x6).f1.f4)).bind fun t122 => (if (t120 != t122) = true then (some false) else (armadalaw17_MvsAlone.l1 k x0 x3 x4 (wrap64 (x6 + 1)))))) else (none)) else (armadalaw17_MvsAlone.l2 k x0 x3 x4 0)
def armadalaw17_MvsAlone.l2 : Nat → List (S27) → List (S27) → List (S27) → Int → Option (Bool)
 | 0, _, _, _, _ => none
 | k + 1, x0, x3, x4, x7 => if x7 < (x4.length : Int) then (if 0 ≤ x7 then ((armadaref17_In.f k x0 ((rd_T27 x4 x7).f0) ((rd_T27 x4 x7).f1.f0) ((rd_T27 x4 x7).f1.f1) ((rd_T27 x4 x7).f1.f2) ((rd_T27 x4 x7).f1.f3) ((rd_T27 x4 x7).f1.f4)).bind fun t124 => (if t124 = true then (armadalaw17_MvsAlone.l2 k x0 x3 x4 (wrap64 (x7 + 1))) else (some false))) else (none)) else (if (x4.length : Int) ≤ (x3.length : Int) then ((armadalaw17_live.f).bind fun t125 => (some t125)) else (some false))
end
def armadalaw17_MvsAlone.f (k : Nat) (l0 : List (S27)) : Option (Bool) := (armadaref17_Small.f k l0 ([] : List (S46))).bind fun t101 => (if t101 = true then ((mvs_Reached.f l0 ([] : List (S48))).bind fun t103 => ((mvs_List.f l0 ([] : List (S48))).bind fun t106 => (armadalaw17_MvsAlone.l0 k l0 t103 t106 0))) else ((armadalaw17_live.f).bind fun t102 => (some t102)))
theorem armadalaw17_MvsAlone.mono_l : ∀ k, (∀ y0 y1 y2 y3, LeO (armadalaw17_MvsAlone.l0 k y0 y1 y2 y3) (armadalaw17_MvsAlone.l0 (k + 1) y0 y1 y2 y3)) ∧ (∀ y0 y1 y2 y3, LeO (armadalaw17_MvsAlone.l1 k y0 y1 y2 y3) (armadalaw17_MvsAlone.l1 (k + 1) y0 y1 y2 y3)) ∧ (∀ y0 y1 y2 y3, LeO (armadalaw17_MvsAlone.l2 k y0 y1 y2 y3) (armadalaw17_MvsAlone.l2 (k + 1) y0 y1 y2 y3))
 | 0 => ⟨fun _ _ _ _ r h => by simp [armadalaw17_MvsAlone.l0] at h, fun _ _ _ _ r h => by simp [armadalaw17_MvsAlone.l1] at h, fun _ _ _ _ r h => by simp [armadalaw17_MvsAlone.l2] at h⟩
 | k + 1 => by
  obtain ⟨ih0, ih1, ih2⟩ := armadalaw17_MvsAlone.mono_l k
  refine ⟨?_, ?_, ?_⟩
  ·
   intro y0 y1 y2 y3
   unfold armadalaw17_MvsAlone.l0
   repeat' first
   | (with_reducible exact ih0 _ _ _ _)
   | (with_reducible exact ih1 _ _ _ _)
   | (with_reducible exact ih2 _ _ _ _)
   | (with_reducible exact armadaref17_In.mono _ _ _ _ _ _ _ _)
   | (with_reducible exact armadaref17_May.mono _ _ _ _ _ _ _)
   | (with_reducible exact armadaref17_Small.mono _ _ _)
   | (with_reducible exact LeO.refl _)
   | (with_reducible exact LeO.none _)
   | (with_reducible refine LeO.ite ?_ ?_)
   | (with_reducible refine LeO.bind ?_ (fun _ => ?_))
   | exact ih0 _ _ _ _
   | exact ih1 _ _ _ _
   | exact ih2 _ _ _ _
   | exact armadaref17_In.mono _ _ _ _ _ _ _ _
   | exact armadaref17_May.mono _ _ _ _ _ _ _
   | exact armadaref17_Small.mono _ _ _
   | exact LeO.none _
   | refine LeO.ite ?_ ?_
   | refine LeO.bind ?_ (fun _ => ?_)
  ·
   intro y0 y1 y2 y3
   unfold armadalaw17_MvsAlone.l1
   repeat' first
   | (with_reducible exact ih0 _ _ _ _)
   | (with_reducible exact ih1 _ _ _ _)
   | (with_reducible exact ih2 _ _ _ _)
   | (with_reducible exact armadaref17_In.mono _ _ _ _ _ _ _ _)
   | (with_reducible exact armadaref17_May.mono _ _ _ _ _ _ _)
   | (with_reducible exact armadaref17_Small.mono _ _ _)
   | (with_reducible exact LeO.refl _)
   | (with_reducible exact LeO.none _)
   | (with_reducible refine LeO.ite ?_ ?_)
   | (with_reducible refine LeO.bind ?_ (fun _ => ?_))
   | exact ih0 _ _ _ _
   | exact ih1 _ _ _ _
   | exact ih2 _ _ _ _
   | exact armadaref17_In.mono _ _ _ _ _ _ _ _
   | exact armadaref17_May.mono _ _ _ _ _ _ _
   | exact armadaref17_Small.mono _ _ _
   | exact LeO.none _
   | refine LeO.ite ?_ ?_
   | refine LeO.bind ?_ (fun _ => ?_)
  ·
   intro y0 y1 y2 y3
   unfold armadalaw17_MvsAlone.l2
   repeat' first
   | (with_reducible exact ih0 _ _ _ _)
   | (with_reducible exact ih1 _ _ _ _)
   | (with_reducible exact ih2 _ _ _ _)
   | (with_reducible exact armadaref17_In.mono _ _ _ _ _ _ _ _)
   | (with_reducible exact armadaref17_May.mono _ _ _ _ _ _ _)
   | (with_reducible exact armadaref17_Small.mono _ _ _)
   | (with_reducible exact LeO.refl _)
   | (with_reducible exact LeO.none _)
   | (with_reducible refine LeO.ite ?_ ?_)
   | (with_reducible refine LeO.bind ?_ (fun _ => ?_))
   | exact ih0 _ _ _ _
   | exact ih1 _ _ _ _
   | exact ih2 _ _ _ _
   | exact armadaref17_In.mono _ _ _ _ _ _ _ _
   | exact armadaref17_May.mono _ _ _ _ _ _ _
   | exact armadaref17_Small.mono _ _ _
   | exact LeO.none _
   | refine LeO.ite ?_ ?_
   | refine LeO.bind ?_ (fun _ => ?_)
theorem armadalaw17_MvsAlone.mono : ∀ a0 k, LeO (armadalaw17_MvsAlone.f k a0) (armadalaw17_MvsAlone.f (k + 1) a0) := by
 intro a0 k
 obtain ⟨ih0, ih1, ih2⟩ := armadalaw17_MvsAlone.mono_l k
 unfold armadalaw17_MvsAlone.f
 repeat' first
   | (with_reducible exact ih0 _ _ _ _)
   | (with_reducible exact ih1 _ _ _ _)
   | (with_reducible exact ih2 _ _ _ _)
   | (with_reducible exact armadaref17_In.mono _ _ _ _ _ _ _ _)
   | (with_reducible exact armadaref17_May.mono _ _ _ _ _ _ _)
   | (with_reducible exact armadaref17_Small.mono _ _ _)
   | (with_reducible exact LeO.refl _)
   | (with_reducible exact LeO.none _)
   | (with_reducible refine LeO.ite ?_ ?_)
   | (with_reducible refine LeO.bind ?_ (fun _ => ?_))
   | exact ih0 _ _ _ _
   | exact ih1 _ _ _ _
   | exact ih2 _ _ _ _
   | exact armadaref17_In.mono _ _ _ _ _ _ _ _
   | exact armadaref17_May.mono _ _ _ _ _ _ _
   | exact armadaref17_Small.mono _ _ _
   | exact LeO.none _
   | refine LeO.ite ?_ ?_
   | refine LeO.bind ?_ (fun _ => ?_)
def armadalaw17_MvsAlone.T8 : Bool × List (List Nat × List Nat) := (true, [([], []), ([], []), ([], []), ([1, 2], [1, 2]), ([3], [3]), ([0, 4], [0, 4]), ([5], [5]), ([6, 5], [6]), ([7], [7]), ([7], [7]), ([8, 9, 7], [7, 8, 9]), ([10, 7], [7, 10]), ([11, 7, 7], [7, 11]), ([12, 7], [7, 12]), ([7, 13], [7, 13]), ([14, 12], [14]), ([15], [15]), ([15], [15]), ([16, 17, 15], [15, 16, 17]), ([15], [15]), ([15], [15]), ([19, 20, 15], [15, 19, 20]), ([21, 15], [15, 21]), ([18, 22, 15, 15], [15, 18, 22]), ([15, 23], [15, 23])])
def armadalaw17_MvsAlone.B8 : List Nat := [0, 0, 0, 6, 14, 31, 63, 127, 255, 255, 1023, 2047, 4095, 8191, 16383, 32767, 65535, 65535, 262143, 65535, 65535, 1638399, 3735551, 8388607, 16777215]
theorem armadalaw17_MvsAlone.tab8 : rtab .any (opsOf Tryz.f9 8) = armadalaw17_MvsAlone.T8 := by kernel_rfl
theorem armadalaw17_MvsAlone.bits8 : waitsOk armadalaw17_MvsAlone.T8.2 armadalaw17_MvsAlone.B8 = true := by kernel_rfl
def armadalaw17_MvsAlone.T13 : Bool × List (List Nat × List Nat) := (true, [([], []), ([], []), ([0, 1], [0, 1]), ([2], [2]), ([3], [3]), ([], []), ([], []), ([], []), ([6, 7], [6, 7]), ([8], [8]), ([5, 9, 4], [5, 9]), ([4, 10], [4, 10])])
def armadalaw17_MvsAlone.B13 : List Nat := [0, 0, 3, 7, 15, 0, 0, 0, 192, 448, 1023, 2047]
theorem armadalaw17_MvsAlone.tab13 : rtab .any (opsOf Tryz.f9 13) = armadalaw17_MvsAlone.T13 := by kernel_rfl
theorem armadalaw17_MvsAlone.bits13 : waitsOk armadalaw17_MvsAlone.T13.2 armadalaw17_MvsAlone.B13 = true := by kernel_rfl
set_option maxHeartbeats 8000000 in
set_option maxRecDepth 100000 in
theorem armadalaw17_MvsAlone.calls (k : Nat) (A0 : Option Addr) (c0 : Nat) (l0 : List (S27)) (r : Bool) (w : World) (hr0 : Kd.C k27 w A0 l0.length l0) (hc0 : l0.length ≤ c0) (hG : GW w) (hT : r = true) (h : armadalaw17_MvsAlone.f k l0 = some r) :
  Calls Tryz.prog 9 #[.slice A0 l0.length c0] w fun e w' => e = .returned (.bool r) ∧ Below w.heap.size w w' := by
 have hu27 := Tryz.underlying27
 have HR0 := Aside0.mk hr0
 have HC0 := Aside0.mk hc0
 clear hr0 hc0
 have HGW := Aside0.mk hG
 clear hG
 have HTRU_ := Aside0.mk hT
 clear hT
 have HB := Aside0.mk (Below.refl w.heap.size w)
 have H : ((armadaref17_Small.f k l0 ([] : List (S46))).bind fun t101 => (if t101 = true then ((mvs_Reached.f l0 ([] : List (S48))).bind fun t103 => ((mvs_List.f l0 ([] : List (S48))).bind fun t106 => (armadalaw17_MvsAlone.l0 k l0 t103 t106 0))) else ((armadalaw17_live.f).bind fun t102 => (some t102)))) = some r := h
 clear h
 replace H := xb H
 obtain ⟨t101, A2, H⟩ := H
 by_cases c3 : t101 = true
 ·
  subst c3
  rw [if_pos rfl] at H
  replace H := xb H
  obtain ⟨t103, A4, H⟩ := H
  replace H := xb H
  obtain ⟨t106, A5, H⟩ := H
  have H' := Aside0.mk H
  clear H
  go_enter Tryz.func9, Tryz.ntmps9
  go_wp2_with (first | ((with_reducible refine gate_callee (f := 11) rfl ?_); refine goesL_ (some 9) rfl rfl Tryz.func11 (by kernel_rfl) rfl #[.slice A0 l0.length c0, .slice none 0 0] rfl xS ?_; (refine (armadaref17_Small.calls k _ _ l0 _ _ ([] : List (S46)) true _ ?side1 ?side2 ?side3 ?side4 A2.out).mono ?_); (case side1 => repeat (first | exact HR0.out | (with_reducible refine Kd.C_alloc ?_ _) | (with_reducible refine Kd.C_drewN ?_ _) | (with_reducible refine Kd.C_drew ?_))); (case side2 => exact HC0.out); (case side3 => exact Kd.C_nil _ _); (case side4 => exact Nat.le_refl _); rintro e w6 ⟨rfl, hb⟩; refine ⟨_, rfl, ?_⟩; replace HB := Aside0.mk (below_step xB hb); (try clear hb); (try clear hb2); (try clear hk); (try clear hi)) | ((with_reducible refine gate_callee (f := 15) rfl ?_); refine goesL_ (some 13) rfl rfl Tryz.func15 (by kernel_rfl) rfl #[.slice A0 l0.length c0, .slice none 0 0] rfl xS ?_; (refine (mvs_Reached.calls _ _ l0 _ _ ([] : List (S48)) t103 _ ?side1 ?side2 ?side3 ?side4 ?side5 A4.out).mono ?_); (case side1 => repeat (first | exact (Kd.C_below HR0.out HB.out) | (with_reducible refine Kd.C_alloc ?_ _) | (with_reducible refine Kd.C_drewN ?_ _) | (with_reducible refine Kd.C_drew ?_))); (case side2 => exact HC0.out); (case side3 => exact Kd.C_nil _ _); (case side4 => exact Nat.le_refl _); (case side5 => exact GW.below HGW.out xB); rintro e w7 ⟨v104, rfl, ho0, hb⟩; refine ⟨_, rfl, ?_⟩; have HO105 := Aside0.mk (Kd.R_lower ho0 (below_size xB)); replace HB := Aside0.mk (below_step xB hb); (try clear hb); (try clear hb2); (try clear hk); (try clear hi); (try clear ho0)) | ((with_reducible refine gate_callee (f := 17) rfl ?_); refine goesL_ (some 15) rfl rfl Tryz.func17 (by kernel_rfl) rfl #[.slice A0 l0.length c0, .slice none 0 0] rfl xS ?_; (refine (mvs_List.calls _ _ l0 _ _ ([] : List (S48)) t106 _ ?side1 ?side2 ?side3 ?side4 ?side5 A5.out).mono ?_); (case side1 => repeat (first | exact (Kd.C_below HR0.out HB.out) | (with_reducible refine Kd.C_alloc ?_ _) | (with_reducible refine Kd.C_drewN ?_ _) | (with_reducible refine Kd.C_drew ?_))); (case side2 => exact HC0.out); (case side3 => exact Kd.C_nil _ _); (case side4 => exact Nat.le_refl _); (case side5 => exact GW.below HGW.out xB); rintro e w8 ⟨v107, rfl, ho0, hb⟩; refine ⟨_, rfl, ?_⟩; have HO108 := Aside0.mk (Kd.R_lower (Kd.R_new' ho0 (Kd.R_lt (by (with_reducible repeat (first | apply Kd.R_alloc | apply Kd.R_drewN | apply Kd.R_drew)); exact HO105.out))) (below_size xB)); replace HO105 := Aside0.mk (Kd.R_elder' (by (with_reducible repeat (first | apply Kd.R_alloc | apply Kd.R_drewN | apply Kd.R_drew)); exact HO105.out) (Kd.R_base ho0) hb); replace HB := Aside0.mk (below_step xB hb); (try clear hb); (try clear hb2); (try clear hk); (try clear hi); (try clear ho0)))
  go_loopg [5] k (fun kq v5 w' => ∃ (x5_1 : Int), v5 = .int .i64 x5_1 ∧ Aside0 (armadalaw17_MvsAlone.l0 kq l0 t103 t106 x5_1 = some r) ∧ Aside0 (kq ≤ k) ∧ Aside0 (Kd.R k27 27 w' w.heap.size (fun k_ => some k_ ≠ (v107 : Value).ownBlock) v104 t103) ∧ Aside0 (Kd.R k27 27 w' w.heap.size (fun k_ => some k_ ≠ (v104 : Value).ownBlock) v107 t106) ∧ Aside0 (Below w.heap.size w w'))
  case atStart => exact ⟨(0), xR, H', ⟨Nat.le_refl _⟩, ⟨by (with_reducible repeat (first | apply Kd.R_alloc | apply Kd.R_drewN | apply Kd.R_drew)); exact Kd.R_mono HO105.out (fun _ hk => hk.2)⟩, ⟨by (with_reducible repeat (first | apply Kd.R_alloc | apply Kd.R_drewN | apply Kd.R_drew)); exact Kd.R_mono HO108.out (fun _ hk => hk.2)⟩, ⟨xB⟩⟩
  case round =>
   clear H'
   try clear c1
   try clear p2
   try clear c3
   obtain ⟨x5_1, rfl, HA, HK1, HO_3, HO_4, HB⟩ := hrel
   cases gk with
   | zero => exact absurd HA.out (by simp [armadalaw17_MvsAlone.l0])
   | succ k1 =>
    have H := HA.out
    clear HA
    simp only [armadalaw17_MvsAlone.l0] at H
    by_cases c9 : x5_1 < (t103.length : Int)
    ·
     rw [if_pos c9] at H
     have c9b0 := decide_eq_true c9
     clear c9
     replace H := xI H
     obtain ⟨c10, H⟩ := H
     have c10b0 := decide_eq_true c10
     clear c10
     replace H := xb H
     obtain ⟨t110, A11, H⟩ := H
     by_cases c12 : t110 = true
     ·
      subst c12
      rw [if_pos rfl] at H
      replace H := xb H
      obtain ⟨t112, A13, H⟩ := H
      by_cases c14 : t112 = true
      ·
       subst c14
       rw [if_pos rfl] at H
       have c15b0 := eq_true (xD : 0 ≤ x5_1)
       replace H := xI H
       obtain ⟨c16, H⟩ := H
       have c16b0 := eq_true c16
       have c16b1 := decide_eq_true c16
       clear c16
       obtain ⟨y113, hy113⟩ : ∃ y_ : List (S27), y_ = (t103.take (x5_1 : Int).toNat) := ⟨_, rfl⟩
       replace H : ((armadaref17_In.f k1 y113 ((rd_T27 t103 x5_1).f0) ((rd_T27 t103 x5_1).f1.f0) ((rd_T27 t103 x5_1).f1.f1) ((rd_T27 t103 x5_1).f1.f2) ((rd_T27 t103 x5_1).f1.f3) ((rd_T27 t103 x5_1).f1.f4)).bind fun t118 => (if t118 = true then (some false) else (armadalaw17_MvsAlone.l0 k1 l0 t103 t106 (wrap64 (x5_1 + 1))))) = some r := by first | (rw [hy113]; with_reducible exact H) | (have H2_ := (Option.bind_some _ _).symm.trans H; rw [hy113]; with_reducible exact H2_) | (have H2_ := (Option.bind_some _ _).symm.trans H; with_reducible exact H2_) | with_reducible exact H | (rw [hy113]; exact H) | exact H
       have Ny113 := Aside0.mk hy113
       clear hy113
       replace H := xb H
       obtain ⟨t118, A17, H⟩ := H
       by_cases c18 : t118 = true
       ·
        subst c18
        rw [if_pos rfl] at H
        exact absurd ((Option.some.inj H).trans HTRU_.out) (by decide)
       replace c18 := Bool.eq_false_iff.mpr c18
       subst c18
       rw [if_neg (show ¬ (false = true) by decide)] at H
       have H' := Aside0.mk H
       clear H
       obtain ⟨Ao19, co19, eo19⟩ := Kd.R_slice HO_3.out
       subst eo19
       try go_wp2
       have n0_ := Aside0.mk (Kd.R_drew HO_3.out)
       have n1_ := Aside0.mk (Kd.R_drew HO_4.out)
       have n2_ := Aside0.mk (below_drew1 HB.out)
       clear HO_3
       clear HO_4
       clear HB
       have HO_3 := n0_
       have HO_4 := n1_
       have HB := n2_
       clear n0_ n1_ n2_
       have p109 : 0 ≤ (x5_1 : Int) := xD
       have q109 : x5_1 < (t103.length : Int) := xD
       obtain ⟨ad109, e109, hx109_0, hx109_1, hx109_2, hx109_3, hx109_4, hx109_5⟩ := at_T27 (Kd.R_reads' HO_3.out).2.2 x5_1 p109 q109
       cases e109
       replace p109 := eq_true p109
       replace q109 := eq_true q109
       have p111 : 0 ≤ (x5_1 : Int) := xD
       have q111 : x5_1 < (t103.length : Int) := xD
       obtain ⟨ad111, e111, hx111_0, hx111_1, hx111_2, hx111_3, hx111_4, hx111_5⟩ := at_T27 (Kd.R_reads' HO_3.out).2.2 x5_1 p111 q111
       obtain rfl : ad109 = ad111 := (by injection e111)
       replace p111 := eq_true p111
       replace q111 := eq_true q111
       have p117 : 0 ≤ (x5_1 : Int) := xD
       have q117 : x5_1 < (t103.length : Int) := xD
       obtain ⟨ad117, e117, hx117_0, hx117_1, hx117_2, hx117_3, hx117_4, hx117_5⟩ := at_T27 (Kd.R_reads' HO_3.out).2.2 x5_1 p117 q117
       obtain rfl : ad109 = ad117 := (by injection e117)
       replace p117 := eq_true p117
       replace q117 := eq_true q117
       refine start_ (n := 25) (S := fun w' => w'.cell? (ad109.add ((x5_1).toNat * 6)) = some (.string ((rd_T27 t103 x5_1).f0)) ∧ w'.cell? ⟨(ad109.add ((x5_1).toNat * 6)).block, (ad109.add ((x5_1).toNat * 6)).off + 1, none⟩ = some (.int .i64 ((rd_T27 t103 x5_1).f1.f0)) ∧ w'.cell? ⟨(ad109.add ((x5_1).toNat * 6)).block, (ad109.add ((x5_1).toNat * 6)).off + 2, none⟩ = some (.int .i64 ((rd_T27 t103 x5_1).f1.f1)) ∧ w'.cell? ⟨(ad109.add ((x5_1).toNat * 6)).block, (ad109.add ((x5_1).toNat * 6)).off + 3, none⟩ = some (.int .i64 ((rd_T27 t103 x5_1).f1.f2)) ∧ w'.cell? ⟨(ad109.add ((x5_1).toNat * 6)).block, (ad109.add ((x5_1).toNat * 6)).off + 4, none⟩ = some (.string ((rd_T27 t103 x5_1).f1.f3)) ∧ w'.cell? ⟨(ad109.add ((x5_1).toNat * 6)).block, (ad109.add ((x5_1).toNat * 6)).off + 5, none⟩ = some (.string ((rd_T27 t103 x5_1).f1.f4)) ∧ w'.cell? (ad109.add ((x5_1).toNat * 6)) = some (.string ((rd_T27 t103 x5_1).f0)) ∧ w'.cell? ⟨(ad109.add ((x5_1).toNat * 6)).block, (ad109.add ((x5_1).toNat * 6)).off + 1, none⟩ = some (.int .i64 ((rd_T27 t103 x5_1).f1.f0)) ∧ w'.cell? ⟨(ad109.add ((x5_1).toNat * 6)).block, (ad109.add ((x5_1).toNat * 6)).off + 2, none⟩ = some (.int .i64 ((rd_T27 t103 x5_1).f1.f1)) ∧ w'.cell? ⟨(ad109.add ((x5_1).toNat * 6)).block, (ad109.add ((x5_1).toNat * 6)).off + 3, none⟩ = some (.int .i64 ((rd_T27 t103 x5_1).f1.f2)) ∧ w'.cell? ⟨(ad109.add ((x5_1).toNat * 6)).block, (ad109.add ((x5_1).toNat * 6)).off + 4, none⟩ = some (.string ((rd_T27 t103 x5_1).f1.f3)) ∧ w'.cell? ⟨(ad109.add ((x5_1).toNat * 6)).block, (ad109.add ((x5_1).toNat * 6)).off + 5, none⟩ = some (.string ((rd_T27 t103 x5_1).f1.f4)) ∧ w'.cell? (ad109.add ((x5_1).toNat * 6)) = some (.string ((rd_T27 t103 x5_1).f0)) ∧ w'.cell? ⟨(ad109.add ((x5_1).toNat * 6)).block, (ad109.add ((x5_1).toNat * 6)).off + 1, none⟩ = some (.int .i64 ((rd_T27 t103 x5_1).f1.f0)) ∧ w'.cell? ⟨(ad109.add ((x5_1).toNat * 6)).block, (ad109.add ((x5_1).toNat * 6)).off + 2, none⟩ = some (.int .i64 ((rd_T27 t103 x5_1).f1.f1)) ∧ w'.cell? ⟨(ad109.add ((x5_1).toNat * 6)).block, (ad109.add ((x5_1).toNat * 6)).off + 3, none⟩ = some (.int .i64 ((rd_T27 t103 x5_1).f1.f2)) ∧ w'.cell? ⟨(ad109.add ((x5_1).toNat * 6)).block, (ad109.add ((x5_1).toNat * 6)).off + 4, none⟩ = some (.string ((rd_T27 t103 x5_1).f1.f3)) ∧ w'.cell? ⟨(ad109.add ((x5_1).toNat * 6)).block, (ad109.add ((x5_1).toNat * 6)).off + 5, none⟩ = some (.string ((rd_T27 t103 x5_1).f1.f4))) (ds := []) #[ff, ff, ff, ff, ff, ff, ff, ff, ff, ff, ff, ff, ff, ff, ff, ff, ff, ff, ff, ff, ff, ff, ff, ff, ff] (by kernel_rfl) rfl rfl ⟨hx109_0, hx109_1, hx109_2, hx109_3, hx109_4, hx109_5, hx111_0, hx111_1, hx111_2, hx111_3, hx111_4, hx111_5, hx117_0, hx117_1, hx117_2, hx117_3, hx117_4, hx117_5⟩ (fun hHeld => ?_); refine with_tabW armadalaw17_MvsAlone.tab8 armadalaw17_MvsAlone.bits8 (fun HT_ HW_ => ?_)
       generalize wr.drew = w20 at HO_3 HO_4 HB hx109_0 hx109_1 hx109_2 hx109_3 hx109_4 hx109_5 hx111_0 hx111_1 hx111_2 hx111_3 hx111_4 hx111_5 hx117_0 hx117_1 hx117_2 hx117_3 hx117_4 hx117_5 hHeld ⊢
       refine pure_ (i := 0) (N := some 22) (v := ?_) (a' := ?_) #[tt, ff, ff, ff, ff, ff, ff, ff, ff, ff, ff, ff, ff, ff, ff, ff, ff, ff, ff, ff, ff, ff, ff, ff, ff] rfl rfl (any_of HT_.out (by kernel_rfl)) (fun _ _ _ h => h) (Or.inl ⟨by rfl, ?_⟩) ?_ ?_
       rotate_left
       ·
        intro w'
        go_simp
        with_reducible rfl
       rotate_left
       ·
        simp only [Act.put, List.setIfInBounds_toArray, List.set_cons_zero, List.set_cons_succ, i64_w, i32_w]
        rfl
       refine pure_ (i := 1) (N := some 23) (v := ?_) (a' := ?_) #[tt, tt, ff, ff, ff, ff, ff, ff, ff, ff, ff, ff, ff, ff, ff, ff, ff, ff, ff, ff, ff, ff, ff, ff, ff] rfl rfl (any_of HT_.out (by kernel_rfl)) (fun _ _ _ h => h) (Or.inl ⟨by rfl, ?_⟩) ?_ ?_
       rotate_left
       ·
        intro w'
        go_simp
        with_reducible rfl
       rotate_left
       ·
        simp only [Act.put, List.setIfInBounds_toArray, List.set_cons_zero, List.set_cons_succ, i64_w, i32_w]
        rfl
       refine pure_ (i := 2) (N := some 24) (v := ?_) (a' := ?_) #[tt, tt, tt, ff, ff, ff, ff, ff, ff, ff, ff, ff, ff, ff, ff, ff, ff, ff, ff, ff, ff, ff, ff, ff, ff] rfl rfl (any_of HT_.out (by kernel_rfl)) (fun _ _ _ h => h) (Or.inl ⟨by rfl, ?_⟩) ?_ ?_
       rotate_left
       ·
        intro w'
        go_simp
        with_reducible rfl
       rotate_left
       ·
        simp only [Act.put, List.setIfInBounds_toArray, List.set_cons_zero, List.set_cons_succ, i64_w, i32_w]
        rfl
       refine pure_ (i := 3) (N := some 25) (v := ?_) (a' := ?_) #[tt, tt, tt, tt, ff, ff, ff, ff, ff, ff, ff, ff, ff, ff, ff, ff, ff, ff, ff, ff, ff, ff, ff, ff, ff] rfl rfl (any_of HT_.out (by kernel_rfl)) (fun _ _ _ h => h) (Or.inl ⟨by rfl, ?_⟩) ?_ ?_
       rotate_left
       ·
        intro w'
        go_simp
        with_reducible rfl
       rotate_left
       ·
        simp only [Act.put, List.setIfInBounds_toArray, List.set_cons_zero, List.set_cons_succ, i64_w, i32_w]
        rfl
       refine take_ (i := 4) (N := some 26) (v := ?_) (a' := ?_) #[tt, tt, tt, tt, tt, ff, ff, ff, ff, ff, ff, ff, ff, ff, ff, ff, ff, ff, ff, ff, ff, ff, ff, ff, ff] rfl rfl (take_ofW HT_.out HW_.out (by kernel_rfl)) (fun _ _ _ h => h) (Or.inl ⟨by rfl, ?_⟩) hHeld ?_ ?_
       rotate_left
       ·
        rintro w' ⟨s0, s1, s2, s3, s4, s5, s6, s7, s8, s9, s10, s11, s12, s13, s14, s15, s16, s17⟩
        go_simp
        with_reducible rfl
       rotate_left
       ·
        simp only [Act.put, List.setIfInBounds_toArray, List.set_cons_zero, List.set_cons_succ, i64_w, i32_w]
        rfl
       refine one_ (i := 5) (N := some 27) #[tt, tt, tt, tt, tt, tt, ff, ff, ff, ff, ff, ff, ff, ff, ff, ff, ff, ff, ff, ff, ff, ff, ff, ff, ff] rfl rfl (one_of HT_.out (by kernel_rfl)) (by decide) (fun K hK => ?_)
       refine goes_ Tryz.func23 (by kernel_rfl) rfl #[.slice A0 l0.length c0, .agg #[.string ((rd_T27 t103 x5_1).f0), .int .i64 ((rd_T27 t103 x5_1).f1.f0), .int .i64 ((rd_T27 t103 x5_1).f1.f1), .int .i64 ((rd_T27 t103 x5_1).f1.f2), .string ((rd_T27 t103 x5_1).f1.f3), .string ((rd_T27 t103 x5_1).f1.f4)]] (by rfl) rfl rfl xS ?_
       with_reducible refine (armadaref17_In.calls k1 _ _ l0 ((rd_T27 t103 x5_1).f0) ((rd_T27 t103 x5_1).f1.f0) ((rd_T27 t103 x5_1).f1.f1) ((rd_T27 t103 x5_1).f1.f2) ((rd_T27 t103 x5_1).f1.f3) ((rd_T27 t103 x5_1).f1.f4) true _ ?side1 ?side2 A11.out).mono ?_
       (case side1 => repeat (first | exact (Kd.C_below HR0.out HB.out) | (with_reducible refine Kd.C_alloc ?_ _) | (with_reducible refine Kd.C_drewN ?_ _) | (with_reducible refine Kd.C_drew ?_)))
       (case side2 => exact HC0.out)
       rintro e w21 ⟨rfl, hb⟩
       have HS0_ := (hb.cell (World.block_lt_of_cell? _ _ (hHeld.1))).trans (hHeld.1)
       have HS1_ := (hb.cell (World.block_lt_of_cell? _ _ (hHeld.2.1))).trans (hHeld.2.1)
       have HS2_ := (hb.cell (World.block_lt_of_cell? _ _ (hHeld.2.2.1))).trans (hHeld.2.2.1)
       have HS3_ := (hb.cell (World.block_lt_of_cell? _ _ (hHeld.2.2.2.1))).trans (hHeld.2.2.2.1)
       have HS4_ := (hb.cell (World.block_lt_of_cell? _ _ (hHeld.2.2.2.2.1))).trans (hHeld.2.2.2.2.1)
       have HS5_ := (hb.cell (World.block_lt_of_cell? _ _ (hHeld.2.2.2.2.2.1))).trans (hHeld.2.2.2.2.2.1)
       have HS6_ := (hb.cell (World.block_lt_of_cell? _ _ (hHeld.2.2.2.2.2.2.1))).trans (hHeld.2.2.2.2.2.2.1)
       have HS7_ := (hb.cell (World.block_lt_of_cell? _ _ (hHeld.2.2.2.2.2.2.2.1))).trans (hHeld.2.2.2.2.2.2.2.1)
       have HS8_ := (hb.cell (World.block_lt_of_cell? _ _ (hHeld.2.2.2.2.2.2.2.2.1))).trans (hHeld.2.2.2.2.2.2.2.2.1)
       have HS9_ := (hb.cell (World.block_lt_of_cell? _ _ (hHeld.2.2.2.2.2.2.2.2.2.1))).trans (hHeld.2.2.2.2.2.2.2.2.2.1)
       have HS10_ := (hb.cell (World.block_lt_of_cell? _ _ (hHeld.2.2.2.2.2.2.2.2.2.2.1))).trans (hHeld.2.2.2.2.2.2.2.2.2.2.1)
       have HS11_ := (hb.cell (World.block_lt_of_cell? _ _ (hHeld.2.2.2.2.2.2.2.2.2.2.2.1))).trans (hHeld.2.2.2.2.2.2.2.2.2.2.2.1)
       have HS12_ := (hb.cell (World.block_lt_of_cell? _ _ (hHeld.2.2.2.2.2.2.2.2.2.2.2.2.1))).trans (hHeld.2.2.2.2.2.2.2.2.2.2.2.2.1)
       have HS13_ := (hb.cell (World.block_lt_of_cell? _ _ (hHeld.2.2.2.2.2.2.2.2.2.2.2.2.2.1))).trans (hHeld.2.2.2.2.2.2.2.2.2.2.2.2.2.1)
       have HS14_ := (hb.cell (World.block_lt_of_cell? _ _ (hHeld.2.2.2.2.2.2.2.2.2.2.2.2.2.2.1))).trans (hHeld.2.2.2.2.2.2.2.2.2.2.2.2.2.2.1)
       have HS15_ := (hb.cell (World.block_lt_of_cell? _ _ (hHeld.2.2.2.2.2.2.2.2.2.2.2.2.2.2.2.1))).trans (hHeld.2.2.2.2.2.2.2.2.2.2.2.2.2.2.2.1)
       have HS16_ := (hb.cell (World.block_lt_of_cell? _ _ (hHeld.2.2.2.2.2.2.2.2.2.2.2.2.2.2.2.2.1))).trans (hHeld.2.2.2.2.2.2.2.2.2.2.2.2.2.2.2.2.1)
       have HS17_ := (hb.cell (World.block_lt_of_cell? _ _ (hHeld.2.2.2.2.2.2.2.2.2.2.2.2.2.2.2.2.2))).trans (hHeld.2.2.2.2.2.2.2.2.2.2.2.2.2.2.2.2.2)
       refine ⟨_, rfl, ?_⟩
       have n0_ := Aside0.mk (Kd.R_below (by (with_reducible repeat (first | apply Kd.R_alloc | apply Kd.R_drewN | apply Kd.R_drew)); exact HO_3.out) hb)
       have n1_ := Aside0.mk (Kd.R_below (by (with_reducible repeat (first | apply Kd.R_alloc | apply Kd.R_drewN | apply Kd.R_drew)); exact HO_4.out) hb)
       have n2_ := Aside0.mk (below_step xB hb)
       clear HO_3
       clear HO_4
       clear HB
       have HO_3 := n0_
       have HO_4 := n1_
       have HB := n2_
       clear n0_ n1_ n2_
       (try clear hb)
       (try clear hb2)
       (try clear hk)
       (try clear hi)
       refine hK.out _ _ ⟨HS0_, HS1_, HS2_, HS3_, HS4_, HS5_, HS6_, HS7_, HS8_, HS9_, HS10_, HS11_, HS12_, HS13_, HS14_, HS15_, HS16_, HS17_⟩ (fun hHeld => ?_)
       clear hK K
       refine norm_ (a' := ?_) ?_ ?_
       rotate_left
       ·
        show Act.put _ (some 27) _ = _
        simp only [Act.put, List.setIfInBounds_toArray, List.set_cons_zero, List.set_cons_succ, i64_w, i32_w]
        rfl
       refine pure_ (i := 6) (N := some 28) (v := ?_) (a' := ?_) #[tt, tt, tt, tt, tt, tt, tt, ff, ff, ff, ff, ff, ff, ff, ff, ff, ff, ff, ff, ff, ff, ff, ff, ff, ff] rfl rfl (any_of HT_.out (by kernel_rfl)) (fun _ _ _ h => h) (Or.inl ⟨by rfl, ?_⟩) ?_ ?_
       rotate_left
       ·
        intro w'
        go_simp
        with_reducible rfl
       rotate_left
       ·
        simp only [Act.put, List.setIfInBounds_toArray, List.set_cons_zero, List.set_cons_succ, i64_w, i32_w]
        rfl
       refine pure_ (i := 7) (N := some 29) (v := ?_) (a' := ?_) #[tt, tt, tt, tt, tt, tt, tt, tt, ff, ff, ff, ff, ff, ff, ff, ff, ff, ff, ff, ff, ff, ff, ff, ff, ff] rfl rfl (any_of HT_.out (by kernel_rfl)) (fun _ _ _ h => h) (Or.inl ⟨by rfl, ?_⟩) ?_ ?_
       rotate_left
       ·
        intro w'
        go_simp
        with_reducible rfl
       rotate_left
       ·
        simp only [Act.put, List.setIfInBounds_toArray, List.set_cons_zero, List.set_cons_succ, i64_w, i32_w]
        rfl
       refine pure_ (i := 8) (N := some 30) (v := ?_) (a' := ?_) #[tt, tt, tt, tt, tt, tt, tt, tt, tt, ff, ff, ff, ff, ff, ff, ff, ff, ff, ff, ff, ff, ff, ff, ff, ff] rfl rfl (any_of HT_.out (by kernel_rfl)) (fun _ _ _ h => h) (Or.inl ⟨by rfl, ?_⟩) ?_ ?_
       rotate_left
       ·
        intro w'
        go_simp
        with_reducible rfl
       rotate_left
       ·
        simp only [Act.put, List.setIfInBounds_toArray, List.set_cons_zero, List.set_cons_succ, i64_w, i32_w]
        rfl
       refine pure_ (i := 9) (N := some 31) (v := ?_) (a' := ?_) #[tt, tt, tt, tt, tt, tt, tt, tt, tt, tt, ff, ff, ff, ff, ff, ff, ff, ff, ff, ff, ff, ff, ff, ff, ff] rfl rfl (any_of HT_.out (by kernel_rfl)) (fun _ _ _ h => h) (Or.inl ⟨by rfl, ?_⟩) ?_ ?_
       rotate_left
       ·
        intro w'
        go_simp
        with_reducible rfl
       rotate_left
       ·
        simp only [Act.put, List.setIfInBounds_toArray, List.set_cons_zero, List.set_cons_succ, i64_w, i32_w]
        rfl
       refine pure_ (i := 10) (N := some 32) (v := ?_) (a' := ?_) #[tt, tt, tt, tt, tt, tt, tt, tt, tt, tt, tt, ff, ff, ff, ff, ff, ff, ff, ff, ff, ff, ff, ff, ff, ff] rfl rfl (any_of HT_.out (by kernel_rfl)) (fun _ _ _ h => h) (Or.inl ⟨by rfl, ?_⟩) ?_ ?_
       rotate_left
       ·
        intro w'
        go_simp
        with_reducible rfl
       rotate_left
       ·
        simp only [Act.put, List.setIfInBounds_toArray, List.set_cons_zero, List.set_cons_succ, i64_w, i32_w]
        rfl
       refine take_ (i := 11) (N := some 33) (v := ?_) (a' := ?_) #[tt, tt, tt, tt, tt, tt, tt, tt, tt, tt, tt, tt, ff, ff, ff, ff, ff, ff, ff, ff, ff, ff, ff, ff, ff] rfl rfl (take_ofW HT_.out HW_.out (by kernel_rfl)) (fun _ _ _ h => h) (Or.inl ⟨by rfl, ?_⟩) hHeld ?_ ?_
       rotate_left
       ·
        rintro w' ⟨s0, s1, s2, s3, s4, s5, s6, s7, s8, s9, s10, s11, s12, s13, s14, s15, s16, s17⟩
        go_simp
        with_reducible rfl
       rotate_left
       ·
        simp only [Act.put, List.setIfInBounds_toArray, List.set_cons_zero, List.set_cons_succ, i64_w, i32_w]
        rfl
       refine one_ (i := 12) (N := some 34) #[tt, tt, tt, tt, tt, tt, tt, tt, tt, tt, tt, tt, tt, ff, ff, ff, ff, ff, ff, ff, ff, ff, ff, ff, ff] rfl rfl (one_of HT_.out (by kernel_rfl)) (by decide) (fun K hK => ?_)
       refine goes_ Tryz.func25 (by kernel_rfl) rfl #[.agg #[.string ((rd_T27 t103 x5_1).f0), .int .i64 ((rd_T27 t103 x5_1).f1.f0), .int .i64 ((rd_T27 t103 x5_1).f1.f1), .int .i64 ((rd_T27 t103 x5_1).f1.f2), .string ((rd_T27 t103 x5_1).f1.f3), .string ((rd_T27 t103 x5_1).f1.f4)]] (by rfl) rfl rfl xS ?_
       with_reducible refine (armadaref17_May.calls k1 ((rd_T27 t103 x5_1).f0) ((rd_T27 t103 x5_1).f1.f0) ((rd_T27 t103 x5_1).f1.f1) ((rd_T27 t103 x5_1).f1.f2) ((rd_T27 t103 x5_1).f1.f3) ((rd_T27 t103 x5_1).f1.f4) true _ A13.out).mono ?_
       rintro e w22 ⟨rfl, hb⟩
       have HS0_ := (hb.cell (World.block_lt_of_cell? _ _ (hHeld.1))).trans (hHeld.1)
       have HS1_ := (hb.cell (World.block_lt_of_cell? _ _ (hHeld.2.1))).trans (hHeld.2.1)
       have HS2_ := (hb.cell (World.block_lt_of_cell? _ _ (hHeld.2.2.1))).trans (hHeld.2.2.1)
       have HS3_ := (hb.cell (World.block_lt_of_cell? _ _ (hHeld.2.2.2.1))).trans (hHeld.2.2.2.1)
       have HS4_ := (hb.cell (World.block_lt_of_cell? _ _ (hHeld.2.2.2.2.1))).trans (hHeld.2.2.2.2.1)
       have HS5_ := (hb.cell (World.block_lt_of_cell? _ _ (hHeld.2.2.2.2.2.1))).trans (hHeld.2.2.2.2.2.1)
       have HS6_ := (hb.cell (World.block_lt_of_cell? _ _ (hHeld.2.2.2.2.2.2.1))).trans (hHeld.2.2.2.2.2.2.1)
       have HS7_ := (hb.cell (World.block_lt_of_cell? _ _ (hHeld.2.2.2.2.2.2.2.1))).trans (hHeld.2.2.2.2.2.2.2.1)
       have HS8_ := (hb.cell (World.block_lt_of_cell? _ _ (hHeld.2.2.2.2.2.2.2.2.1))).trans (hHeld.2.2.2.2.2.2.2.2.1)
       have HS9_ := (hb.cell (World.block_lt_of_cell? _ _ (hHeld.2.2.2.2.2.2.2.2.2.1))).trans (hHeld.2.2.2.2.2.2.2.2.2.1)
       have HS10_ := (hb.cell (World.block_lt_of_cell? _ _ (hHeld.2.2.2.2.2.2.2.2.2.2.1))).trans (hHeld.2.2.2.2.2.2.2.2.2.2.1)
       have HS11_ := (hb.cell (World.block_lt_of_cell? _ _ (hHeld.2.2.2.2.2.2.2.2.2.2.2.1))).trans (hHeld.2.2.2.2.2.2.2.2.2.2.2.1)
       have HS12_ := (hb.cell (World.block_lt_of_cell? _ _ (hHeld.2.2.2.2.2.2.2.2.2.2.2.2.1))).trans (hHeld.2.2.2.2.2.2.2.2.2.2.2.2.1)
       have HS13_ := (hb.cell (World.block_lt_of_cell? _ _ (hHeld.2.2.2.2.2.2.2.2.2.2.2.2.2.1))).trans (hHeld.2.2.2.2.2.2.2.2.2.2.2.2.2.1)
       have HS14_ := (hb.cell (World.block_lt_of_cell? _ _ (hHeld.2.2.2.2.2.2.2.2.2.2.2.2.2.2.1))).trans (hHeld.2.2.2.2.2.2.2.2.2.2.2.2.2.2.1)
       have HS15_ := (hb.cell (World.block_lt_of_cell? _ _ (hHeld.2.2.2.2.2.2.2.2.2.2.2.2.2.2.2.1))).trans (hHeld.2.2.2.2.2.2.2.2.2.2.2.2.2.2.2.1)
       have HS16_ := (hb.cell (World.block_lt_of_cell? _ _ (hHeld.2.2.2.2.2.2.2.2.2.2.2.2.2.2.2.2.1))).trans (hHeld.2.2.2.2.2.2.2.2.2.2.2.2.2.2.2.2.1)
       have HS17_ := (hb.cell (World.block_lt_of_cell? _ _ (hHeld.2.2.2.2.2.2.2.2.2.2.2.2.2.2.2.2.2))).trans (hHeld.2.2.2.2.2.2.2.2.2.2.2.2.2.2.2.2.2)
       refine ⟨_, rfl, ?_⟩
       have n0_ := Aside0.mk (Kd.R_below (by (with_reducible repeat (first | apply Kd.R_alloc | apply Kd.R_drewN | apply Kd.R_drew)); exact HO_3.out) hb)
       have n1_ := Aside0.mk (Kd.R_below (by (with_reducible repeat (first | apply Kd.R_alloc | apply Kd.R_drewN | apply Kd.R_drew)); exact HO_4.out) hb)
       have n2_ := Aside0.mk (below_step xB hb)
       clear HO_3
       clear HO_4
       clear HB
       have HO_3 := n0_
       have HO_4 := n1_
       have HB := n2_
       clear n0_ n1_ n2_
       (try clear hb)
       (try clear hb2)
       (try clear hk)
       (try clear hi)
       have q23 : (x5_1 : Int) ≤ ((t103.length : Int) : Int) := xD
       obtain ⟨i023, hi023, _, hsz23, _⟩ := info_parts info27
       have hroom23 : t103.length ≤ co19 := (Kd.R_reads' HO_3.out).2.1
       have hC23 : Kd.C k27 _ (some ad109) t103.length t103 := (Kd.R_reads' HO_3.out).2.2
       have hcut23 := cut_to (P := Tryz.prog) 22 27 .i64 Tryz.underlying22 hi023 (some ad109) t103.length co19 x5_1 (xD) q23 hroom23
       have hr23 := Kd.C_take (m := (x5_1 : Int).toNat) hC23 (by omega)
       have hy23 : y113.length = (x5_1 : Int).toNat := (by rw [Ny113.out, List.length_take]; omega)
       rw [← Ny113.out] at hr23
       rw [← hy23] at hcut23
       have HR116 := Aside0.mk hr23
       have HC116 := Aside0.mk (show y113.length ≤ co19 from by omega)
       clear hr23 hC23 hroom23 hi023 hsz23
       have KY23 := Aside0.mk hy23
       clear hy23
       have KL23 := Aside0.mk (show (x5_1 : Int).toNat ≤ t103.length from by omega)
       replace q23 := eq_true q23
       refine hK.out _ _ ⟨HS0_, HS1_, HS2_, HS3_, HS4_, HS5_, HS6_, HS7_, HS8_, HS9_, HS10_, HS11_, HS12_, HS13_, HS14_, HS15_, HS16_, HS17_⟩ (fun hHeld => ?_)
       clear hK K
       refine norm_ (a' := ?_) ?_ ?_
       rotate_left
       ·
        show Act.put _ (some 34) _ = _
        simp only [Act.put, List.setIfInBounds_toArray, List.set_cons_zero, List.set_cons_succ, i64_w, i32_w]
        rfl
       refine pure_ (i := 13) (N := some 35) (v := ?_) (a' := ?_) #[tt, tt, tt, tt, tt, tt, tt, tt, tt, tt, tt, tt, tt, tt, ff, ff, ff, ff, ff, ff, ff, ff, ff, ff, ff] rfl rfl (any_of HT_.out (by kernel_rfl)) (fun _ _ _ h => h) (Or.inl ⟨by rfl, ?_⟩) ?_ ?_
       rotate_left
       ·
        intro w'
        go_simp
        with_reducible rfl
       rotate_left
       ·
        simp only [Act.put, List.setIfInBounds_toArray, List.set_cons_zero, List.set_cons_succ, i64_w, i32_w]
        rfl
       refine pure_ (i := 14) (N := some 36) (v := ?_) (a' := ?_) #[tt, tt, tt, tt, tt, tt, tt, tt, tt, tt, tt, tt, tt, tt, tt, ff, ff, ff, ff, ff, ff, ff, ff, ff, ff] rfl rfl (any_of HT_.out (by kernel_rfl)) (fun _ _ _ h => h) (Or.inl ⟨by rfl, ?_⟩) ?_ ?_
       rotate_left
       ·
        intro w'
        go_simp
        with_reducible rfl
       rotate_left
       ·
        simp only [Act.put, List.setIfInBounds_toArray, List.set_cons_zero, List.set_cons_succ, i64_w, i32_w]
        rfl
       refine pure_ (i := 15) (N := some 37) (v := ?_) (a' := ?_) #[tt, tt, tt, tt, tt, tt, tt, tt, tt, tt, tt, tt, tt, tt, tt, tt, ff, ff, ff, ff, ff, ff, ff, ff, ff] rfl rfl (any_of HT_.out (by kernel_rfl)) (fun _ _ _ h => h) (Or.inl ⟨by rfl, ?_⟩) ?_ ?_
       rotate_left
       ·
        intro w'
        go_simp
        with_reducible rfl
       rotate_left
       ·
        simp only [Act.put, List.setIfInBounds_toArray, List.set_cons_zero, List.set_cons_succ, i64_w, i32_w]
        rfl
       refine pure_ (i := 16) (N := some 38) (v := ?_) (a' := ?_) #[tt, tt, tt, tt, tt, tt, tt, tt, tt, tt, tt, tt, tt, tt, tt, tt, tt, ff, ff, ff, ff, ff, ff, ff, ff] rfl rfl (any_of HT_.out (by kernel_rfl)) (fun _ _ _ h => h) (Or.inl ⟨by rfl, ?_⟩) ?_ ?_
       rotate_left
       ·
        intro w'
        go_simp
        with_reducible rfl
       rotate_left
       ·
        simp only [Act.put, List.setIfInBounds_toArray, List.set_cons_zero, List.set_cons_succ, i64_w, i32_w]
        rfl
       refine pure_ (i := 17) (N := some 39) (v := ?_) (a' := ?_) #[tt, tt, tt, tt, tt, tt, tt, tt, tt, tt, tt, tt, tt, tt, tt, tt, tt, tt, ff, ff, ff, ff, ff, ff, ff] rfl rfl (any_of HT_.out (by kernel_rfl)) (fun _ _ _ h => h) (Or.inl ⟨by rfl, ?_⟩) ?_ ?_
       rotate_left
       ·
        intro w'
        go_simp
        with_reducible rfl
       rotate_left
       ·
        simp only [Act.put, List.setIfInBounds_toArray, List.set_cons_zero, List.set_cons_succ, i64_w, i32_w]
        rfl
       refine pure_ (i := 18) (N := some 40) (v := ?_) (a' := ?_) #[tt, tt, tt, tt, tt, tt, tt, tt, tt, tt, tt, tt, tt, tt, tt, tt, tt, tt, tt, ff, ff, ff, ff, ff, ff] rfl rfl (any_of HT_.out (by kernel_rfl)) (fun _ _ _ h => h) (Or.inl ⟨by rfl, ?_⟩) ?_ ?_
       rotate_left
       ·
        intro w'
        go_simp
        with_reducible rfl
       rotate_left
       ·
        simp only [Act.put, List.setIfInBounds_toArray, List.set_cons_zero, List.set_cons_succ, i64_w, i32_w]
        rfl
       refine pure_ (i := 19) (N := some 41) (v := ?_) (a' := ?_) #[tt, tt, tt, tt, tt, tt, tt, tt, tt, tt, tt, tt, tt, tt, tt, tt, tt, tt, tt, tt, ff, ff, ff, ff, ff] rfl rfl (any_of HT_.out (by kernel_rfl)) (fun _ _ _ h => h) (Or.inl ⟨by rfl, ?_⟩) ?_ ?_
       rotate_left
       ·
        intro w'
        go_simp
        with_reducible rfl
       rotate_left
       ·
        simp only [Act.put, List.setIfInBounds_toArray, List.set_cons_zero, List.set_cons_succ, i64_w, i32_w]
        rfl
       refine pure_ (i := 20) (N := some 42) (v := ?_) (a' := ?_) #[tt, tt, tt, tt, tt, tt, tt, tt, tt, tt, tt, tt, tt, tt, tt, tt, tt, tt, tt, tt, tt, ff, ff, ff, ff] rfl rfl (any_of HT_.out (by kernel_rfl)) (fun _ _ _ h => h) (Or.inl ⟨by rfl, ?_⟩) ?_ ?_
       rotate_left
       ·
        intro w'
        go_simp
        with_reducible rfl
       rotate_left
       ·
        simp only [Act.put, List.setIfInBounds_toArray, List.set_cons_zero, List.set_cons_succ, i64_w, i32_w]
        rfl
       refine pure_ (i := 21) (N := some 43) (v := ?_) (a' := ?_) #[tt, tt, tt, tt, tt, tt, tt, tt, tt, tt, tt, tt, tt, tt, tt, tt, tt, tt, tt, tt, tt, tt, ff, ff, ff] rfl rfl (any_of HT_.out (by kernel_rfl)) (fun _ _ _ h => h) (Or.inl ⟨by rfl, ?_⟩) ?_ ?_
       rotate_left
       ·
        intro w'
        go_simp
        with_reducible rfl
       rotate_left
       ·
        simp only [Act.put, List.setIfInBounds_toArray, List.set_cons_zero, List.set_cons_succ, i64_w, i32_w]
        rfl
       refine take_ (i := 22) (N := some 44) (v := ?_) (a' := ?_) #[tt, tt, tt, tt, tt, tt, tt, tt, tt, tt, tt, tt, tt, tt, tt, tt, tt, tt, tt, tt, tt, tt, tt, ff, ff] rfl rfl (take_ofW HT_.out HW_.out (by kernel_rfl)) (fun _ _ _ h => h) (Or.inl ⟨by rfl, ?_⟩) hHeld ?_ ?_
       rotate_left
       ·
        rintro w' ⟨s0, s1, s2, s3, s4, s5, s6, s7, s8, s9, s10, s11, s12, s13, s14, s15, s16, s17⟩
        go_simp
        with_reducible rfl
       rotate_left
       ·
        simp only [Act.put, List.setIfInBounds_toArray, List.set_cons_zero, List.set_cons_succ, i64_w, i32_w]
        rfl
       refine one_ (i := 23) (N := some 45) #[tt, tt, tt, tt, tt, tt, tt, tt, tt, tt, tt, tt, tt, tt, tt, tt, tt, tt, tt, tt, tt, tt, tt, tt, ff] rfl rfl (one_of HT_.out (by kernel_rfl)) (by decide) (fun K hK => ?_)
       refine goes_ Tryz.func23 (by kernel_rfl) rfl #[.slice (some ad109) y113.length co19, .agg #[.string ((rd_T27 t103 x5_1).f0), .int .i64 ((rd_T27 t103 x5_1).f1.f0), .int .i64 ((rd_T27 t103 x5_1).f1.f1), .int .i64 ((rd_T27 t103 x5_1).f1.f2), .string ((rd_T27 t103 x5_1).f1.f3), .string ((rd_T27 t103 x5_1).f1.f4)]] (by rfl) rfl rfl xS ?_
       with_reducible refine (armadaref17_In.calls k1 _ _ y113 ((rd_T27 t103 x5_1).f0) ((rd_T27 t103 x5_1).f1.f0) ((rd_T27 t103 x5_1).f1.f1) ((rd_T27 t103 x5_1).f1.f2) ((rd_T27 t103 x5_1).f1.f3) ((rd_T27 t103 x5_1).f1.f4) false _ ?side1 ?side2 A17.out).mono ?_
       (case side1 => repeat (first | exact (by repeat (first | (with_reducible exact HR116.out) | (with_reducible refine Kd.C_alloc ?_ _) | (with_reducible refine Kd.C_drewN ?_ _) | (with_reducible refine Kd.C_drew ?_) | exact HR116.out)) | (with_reducible refine Kd.C_alloc ?_ _) | (with_reducible refine Kd.C_drewN ?_ _) | (with_reducible refine Kd.C_drew ?_)))
       (case side2 => exact HC116.out)
       rintro e w24 ⟨rfl, hb⟩
       have HS0_ := (hb.cell (World.block_lt_of_cell? _ _ (hHeld.1))).trans (hHeld.1)
       have HS1_ := (hb.cell (World.block_lt_of_cell? _ _ (hHeld.2.1))).trans (hHeld.2.1)
       have HS2_ := (hb.cell (World.block_lt_of_cell? _ _ (hHeld.2.2.1))).trans (hHeld.2.2.1)
       have HS3_ := (hb.cell (World.block_lt_of_cell? _ _ (hHeld.2.2.2.1))).trans (hHeld.2.2.2.1)
       have HS4_ := (hb.cell (World.block_lt_of_cell? _ _ (hHeld.2.2.2.2.1))).trans (hHeld.2.2.2.2.1)
       have HS5_ := (hb.cell (World.block_lt_of_cell? _ _ (hHeld.2.2.2.2.2.1))).trans (hHeld.2.2.2.2.2.1)
       have HS6_ := (hb.cell (World.block_lt_of_cell? _ _ (hHeld.2.2.2.2.2.2.1))).trans (hHeld.2.2.2.2.2.2.1)
       have HS7_ := (hb.cell (World.block_lt_of_cell? _ _ (hHeld.2.2.2.2.2.2.2.1))).trans (hHeld.2.2.2.2.2.2.2.1)
       have HS8_ := (hb.cell (World.block_lt_of_cell? _ _ (hHeld.2.2.2.2.2.2.2.2.1))).trans (hHeld.2.2.2.2.2.2.2.2.1)
       have HS9_ := (hb.cell (World.block_lt_of_cell? _ _ (hHeld.2.2.2.2.2.2.2.2.2.1))).trans (hHeld.2.2.2.2.2.2.2.2.2.1)
       have HS10_ := (hb.cell (World.block_lt_of_cell? _ _ (hHeld.2.2.2.2.2.2.2.2.2.2.1))).trans (hHeld.2.2.2.2.2.2.2.2.2.2.1)
       have HS11_ := (hb.cell (World.block_lt_of_cell? _ _ (hHeld.2.2.2.2.2.2.2.2.2.2.2.1))).trans (hHeld.2.2.2.2.2.2.2.2.2.2.2.1)
       have HS12_ := (hb.cell (World.block_lt_of_cell? _ _ (hHeld.2.2.2.2.2.2.2.2.2.2.2.2.1))).trans (hHeld.2.2.2.2.2.2.2.2.2.2.2.2.1)
       have HS13_ := (hb.cell (World.block_lt_of_cell? _ _ (hHeld.2.2.2.2.2.2.2.2.2.2.2.2.2.1))).trans (hHeld.2.2.2.2.2.2.2.2.2.2.2.2.2.1)
       have HS14_ := (hb.cell (World.block_lt_of_cell? _ _ (hHeld.2.2.2.2.2.2.2.2.2.2.2.2.2.2.1))).trans (hHeld.2.2.2.2.2.2.2.2.2.2.2.2.2.2.1)
       have HS15_ := (hb.cell (World.block_lt_of_cell? _ _ (hHeld.2.2.2.2.2.2.2.2.2.2.2.2.2.2.2.1))).trans (hHeld.2.2.2.2.2.2.2.2.2.2.2.2.2.2.2.1)
       have HS16_ := (hb.cell (World.block_lt_of_cell? _ _ (hHeld.2.2.2.2.2.2.2.2.2.2.2.2.2.2.2.2.1))).trans (hHeld.2.2.2.2.2.2.2.2.2.2.2.2.2.2.2.2.1)
       have HS17_ := (hb.cell (World.block_lt_of_cell? _ _ (hHeld.2.2.2.2.2.2.2.2.2.2.2.2.2.2.2.2.2))).trans (hHeld.2.2.2.2.2.2.2.2.2.2.2.2.2.2.2.2.2)
       refine ⟨_, rfl, ?_⟩
       have n0_ := Aside0.mk (Kd.R_below (by (with_reducible repeat (first | apply Kd.R_alloc | apply Kd.R_drewN | apply Kd.R_drew)); exact HO_3.out) hb)
       have n1_ := Aside0.mk (Kd.R_below (by (with_reducible repeat (first | apply Kd.R_alloc | apply Kd.R_drewN | apply Kd.R_drew)); exact HO_4.out) hb)
       have n2_ := Aside0.mk (Kd.C_below (by repeat (first | (with_reducible exact HR116.out) | (with_reducible refine Kd.C_alloc ?_ _) | (with_reducible refine Kd.C_drewN ?_ _) | (with_reducible refine Kd.C_drew ?_) | exact HR116.out)) hb)
       have n3_ := Aside0.mk (below_step xB hb)
       clear HO_3
       clear HO_4
       clear HR116
       clear HB
       have HO_3 := n0_
       have HO_4 := n1_
       have HR116 := n2_
       have HB := n3_
       clear n0_ n1_ n2_ n3_
       (try clear hb)
       (try clear hb2)
       (try clear hk)
       (try clear hi)
       refine hK.out _ _ ⟨HS0_, HS1_, HS2_, HS3_, HS4_, HS5_, HS6_, HS7_, HS8_, HS9_, HS10_, HS11_, HS12_, HS13_, HS14_, HS15_, HS16_, HS17_⟩ (fun hHeld => ?_)
       clear hK K
       refine norm_ (a' := ?_) ?_ ?_
       rotate_left
       ·
        show Act.put _ (some 45) _ = _
        simp only [Act.put, List.setIfInBounds_toArray, List.set_cons_zero, List.set_cons_succ, i64_w, i32_w]
        rfl
       refine pure_ (i := 24) (N := some 46) (v := ?_) (a' := ?_) #[tt, tt, tt, tt, tt, tt, tt, tt, tt, tt, tt, tt, tt, tt, tt, tt, tt, tt, tt, tt, tt, tt, tt, tt, tt] rfl rfl (any_of HT_.out (by kernel_rfl)) (fun _ _ _ h => h) (Or.inl ⟨by rfl, ?_⟩) ?_ ?_
       rotate_left
       ·
        intro w'
        go_simp
        with_reducible rfl
       rotate_left
       ·
        simp only [Act.put, List.setIfInBounds_toArray, List.set_cons_zero, List.set_cons_succ, i64_w, i32_w]
        rfl
       refine done_ (done_of HT_.out (by kernel_rfl)) ?_
       try go_wp2
       go_roundg k1
       case measure => have := HK1.out; omega
       case rel => exact ⟨(wrap64 (x5_1 + 1)), xR, H', ⟨by have := HK1.out; omega⟩, ⟨by (with_reducible repeat (first | apply Kd.R_alloc | apply Kd.R_drewN | apply Kd.R_drew)); exact HO_3.out⟩, ⟨by (with_reducible repeat (first | apply Kd.R_alloc | apply Kd.R_drewN | apply Kd.R_drew)); exact HO_4.out⟩, ⟨xB⟩⟩
      replace c14 := Bool.eq_false_iff.mpr c14
      subst c14
      rw [if_neg (show ¬ (false = true) by decide)] at H
      exact absurd ((Option.some.inj H).trans HTRU_.out) (by decide)
     replace c12 := Bool.eq_false_iff.mpr c12
     subst c12
     rw [if_neg (show ¬ (false = true) by decide)] at H
     exact absurd ((Option.some.inj H).trans HTRU_.out) (by decide)
    rw [if_neg c9] at H
    have c9b0 := decide_eq_false c9
    clear c9
    have H' := Aside0.mk H
    clear H
    obtain ⟨Ao25, co25, eo25⟩ := Kd.R_slice HO_3.out
    subst eo25
    go_wp2
    go_loopg [6] k1 (fun kq v6 w' => ∃ (x6_2 : Int), v6 = .int .i64 x6_2 ∧ Aside0 (armadalaw17_MvsAlone.l1 kq l0 t103 t106 x6_2 = some r) ∧ Aside0 (kq ≤ k1) ∧ Aside0 (Kd.R k27 27 w' w.heap.size (fun k_ => some k_ ≠ (v107 : Value).ownBlock) (.slice Ao25 t103.length co25) t103) ∧ Aside0 (Kd.R k27 27 w' w.heap.size (fun k_ => some k_ ≠ ((.slice Ao25 t103.length co25) : Value).ownBlock) v107 t106) ∧ Aside0 (Below w.heap.size w w'))
    case atStart => exact ⟨(0), xR, H', ⟨Nat.le_refl _⟩, ⟨by (with_reducible repeat (first | apply Kd.R_alloc | apply Kd.R_drewN | apply Kd.R_drew)); exact HO_3.out⟩, ⟨by (with_reducible repeat (first | apply Kd.R_alloc | apply Kd.R_drewN | apply Kd.R_drew)); exact HO_4.out⟩, ⟨xB⟩⟩
    case round =>
     clear H'
     try clear c1
     try clear p1
     try clear q1
     try clear hx1
     try clear c2
     try clear p2
     try clear q2
     try clear c3
     try clear p6
     try clear c9
     try clear c9b0
     try clear c10
     try clear c10b0
     try clear p10
     try clear q10
     try clear hx10
     try clear c11
     try clear p11
     try clear q11
     try clear hx11
     try clear c12
     try clear c14
     try clear c15
     try clear c15b0
     try clear c16
     try clear c16b0
     try clear c16b1
     try clear c17
     try clear c18
     try clear c23
     try clear q23
     try clear c25
     try clear hx109_0
     try clear hx109_1
     try clear hx109_2
     try clear hx109_3
     try clear hx109_4
     try clear hx109_5
     try clear hx111_0
     try clear hx111_1
     try clear hx111_2
     try clear hx111_3
     try clear hx111_4
     try clear hx111_5
     try clear hx117_0
     try clear hx117_1
     try clear hx117_2
     try clear hx117_3
     try clear hx117_4
     try clear hx117_5
     try clear p109
     try clear p111
     try clear p117
     try clear p2
     try clear q109
     try clear q111
     try clear q117
     try clear q23
     obtain ⟨x6_2, rfl, HA, HK2, HO_3, HO_4, HB⟩ := hrel
     cases gk with
     | zero => exact absurd HA.out (by simp [armadalaw17_MvsAlone.l1])
     | succ k2 =>
      have H := HA.out
      clear HA
      simp only [armadalaw17_MvsAlone.l1] at H
      by_cases c26 : x6_2 < (l0.length : Int)
      ·
       rw [if_pos c26] at H
       have c26b0 := decide_eq_true c26
       clear c26
       replace H := xI H
       obtain ⟨c27, H⟩ := H
       have c27b0 := decide_eq_true c27
       clear c27
       replace H := xb H
       obtain ⟨t120, A28, H⟩ := H
       replace H := xb H
       obtain ⟨t122, A29, H⟩ := H
       by_cases c30 : (t120 != t122) = true
       ·
        rw [if_pos c30] at H
        have c30b0 : (t120 != t122) = true := c30
        (try (have c30b1 : decide (t120 = t122) = false := by simpa using c30))
        (try (have c30b2 : (t120 == t122) = false := by simpa using c30))
        (try (have c30b3 : ¬ (t120 = t122) := by simpa using c30))
        clear c30
        exact absurd ((Option.some.inj H).trans HTRU_.out) (by decide)
       rw [if_neg c30] at H
       have c30b0 : (t120 != t122) = false := by simpa using c30
       (try (have c30b1 : decide (t120 = t122) = true := by simpa using c30))
       (try (have c30b2 : (t120 == t122) = true := by simpa using c30))
       clear c30
       have H' := Aside0.mk H
       clear H
       try go_wp2
       have n0_ := Aside0.mk (Kd.R_drew HO_3.out)
       have n1_ := Aside0.mk (Kd.R_drew HO_4.out)
       have n2_ := Aside0.mk (below_drew1 HB.out)
       clear HO_3
       clear HO_4
       clear HB
       have HO_3 := n0_
       have HO_4 := n1_
       have HB := n2_
       clear n0_ n1_ n2_
       have p119 : 0 ≤ (x6_2 : Int) := xD
       have q119 : x6_2 < (l0.length : Int) := xD
       obtain ⟨ad119, e119, hx119_0, hx119_1, hx119_2, hx119_3, hx119_4, hx119_5⟩ := at_T27 HR0.out x6_2 p119 q119
       have hw119_5 := hx119_5
       have hw119_4 := hx119_4
       have hw119_3 := hx119_3
       have hw119_2 := hx119_2
       have hw119_1 := hx119_1
       have hw119_0 := hx119_0
       cases e119
       replace hx119_0 := (HB.out.cell (World.block_lt_of_cell? w _ hx119_0)).trans hx119_0
       replace hx119_1 := (HB.out.cell (World.block_lt_of_cell? w _ hx119_1)).trans hx119_1
       replace hx119_2 := (HB.out.cell (World.block_lt_of_cell? w _ hx119_2)).trans hx119_2
       replace hx119_3 := (HB.out.cell (World.block_lt_of_cell? w _ hx119_3)).trans hx119_3
       replace hx119_4 := (HB.out.cell (World.block_lt_of_cell? w _ hx119_4)).trans hx119_4
       replace hx119_5 := (HB.out.cell (World.block_lt_of_cell? w _ hx119_5)).trans hx119_5
       replace p119 := eq_true p119
       replace q119 := eq_true q119
       have p121 : 0 ≤ (x6_2 : Int) := xD
       have q121 : x6_2 < (l0.length : Int) := xD
       obtain ⟨ad121, e121, hx121_0, hx121_1, hx121_2, hx121_3, hx121_4, hx121_5⟩ := at_T27 HR0.out x6_2 p121 q121
       have hw121_5 := hx121_5
       have hw121_4 := hx121_4
       have hw121_3 := hx121_3
       have hw121_2 := hx121_2
       have hw121_1 := hx121_1
       have hw121_0 := hx121_0
       obtain rfl : ad119 = ad121 := (by injection e121)
       replace hx121_0 := (HB.out.cell (World.block_lt_of_cell? w _ hx121_0)).trans hx121_0
       replace hx121_1 := (HB.out.cell (World.block_lt_of_cell? w _ hx121_1)).trans hx121_1
       replace hx121_2 := (HB.out.cell (World.block_lt_of_cell? w _ hx121_2)).trans hx121_2
       replace hx121_3 := (HB.out.cell (World.block_lt_of_cell? w _ hx121_3)).trans hx121_3
       replace hx121_4 := (HB.out.cell (World.block_lt_of_cell? w _ hx121_4)).trans hx121_4
       replace hx121_5 := (HB.out.cell (World.block_lt_of_cell? w _ hx121_5)).trans hx121_5
       replace p121 := eq_true p121
       replace q121 := eq_true q121
       refine start_ (n := 12) (S := fun w' => w'.cell? (ad119.add ((x6_2).toNat * 6)) = some (.string ((rd_T27 l0 x6_2).f0)) ∧ w'.cell? ⟨(ad119.add ((x6_2).toNat * 6)).block, (ad119.add ((x6_2).toNat * 6)).off + 1, none⟩ = some (.int .i64 ((rd_T27 l0 x6_2).f1.f0)) ∧ w'.cell? ⟨(ad119.add ((x6_2).toNat * 6)).block, (ad119.add ((x6_2).toNat * 6)).off + 2, none⟩ = some (.int .i64 ((rd_T27 l0 x6_2).f1.f1)) ∧ w'.cell? ⟨(ad119.add ((x6_2).toNat * 6)).block, (ad119.add ((x6_2).toNat * 6)).off + 3, none⟩ = some (.int .i64 ((rd_T27 l0 x6_2).f1.f2)) ∧ w'.cell? ⟨(ad119.add ((x6_2).toNat * 6)).block, (ad119.add ((x6_2).toNat * 6)).off + 4, none⟩ = some (.string ((rd_T27 l0 x6_2).f1.f3)) ∧ w'.cell? ⟨(ad119.add ((x6_2).toNat * 6)).block, (ad119.add ((x6_2).toNat * 6)).off + 5, none⟩ = some (.string ((rd_T27 l0 x6_2).f1.f4)) ∧ w'.cell? (ad119.add ((x6_2).toNat * 6)) = some (.string ((rd_T27 l0 x6_2).f0)) ∧ w'.cell? ⟨(ad119.add ((x6_2).toNat * 6)).block, (ad119.add ((x6_2).toNat * 6)).off + 1, none⟩ = some (.int .i64 ((rd_T27 l0 x6_2).f1.f0)) ∧ w'.cell? ⟨(ad119.add ((x6_2).toNat * 6)).block, (ad119.add ((x6_2).toNat * 6)).off + 2, none⟩ = some (.int .i64 ((rd_T27 l0 x6_2).f1.f1)) ∧ w'.cell? ⟨(ad119.add ((x6_2).toNat * 6)).block, (ad119.add ((x6_2).toNat * 6)).off + 3, none⟩ = some (.int .i64 ((rd_T27 l0 x6_2).f1.f2)) ∧ w'.cell? ⟨(ad119.add ((x6_2).toNat * 6)).block, (ad119.add ((x6_2).toNat * 6)).off + 4, none⟩ = some (.string ((rd_T27 l0 x6_2).f1.f3)) ∧ w'.cell? ⟨(ad119.add ((x6_2).toNat * 6)).block, (ad119.add ((x6_2).toNat * 6)).off + 5, none⟩ = some (.string ((rd_T27 l0 x6_2).f1.f4))) (ds := []) #[ff, ff, ff, ff, ff, ff, ff, ff, ff, ff, ff, ff] (by kernel_rfl) rfl rfl ⟨((HB.out.cell (World.block_lt_of_cell? w _ hw119_0)).trans hw119_0), ((HB.out.cell (World.block_lt_of_cell? w _ hw119_1)).trans hw119_1), ((HB.out.cell (World.block_lt_of_cell? w _ hw119_2)).trans hw119_2), ((HB.out.cell (World.block_lt_of_cell? w _ hw119_3)).trans hw119_3), ((HB.out.cell (World.block_lt_of_cell? w _ hw119_4)).trans hw119_4), ((HB.out.cell (World.block_lt_of_cell? w _ hw119_5)).trans hw119_5), ((HB.out.cell (World.block_lt_of_cell? w _ hw121_0)).trans hw121_0), ((HB.out.cell (World.block_lt_of_cell? w _ hw121_1)).trans hw121_1), ((HB.out.cell (World.block_lt_of_cell? w _ hw121_2)).trans hw121_2), ((HB.out.cell (World.block_lt_of_cell? w _ hw121_3)).trans hw121_3), ((HB.out.cell (World.block_lt_of_cell? w _ hw121_4)).trans hw121_4), ((HB.out.cell (World.block_lt_of_cell? w _ hw121_5)).trans hw121_5)⟩ (fun hHeld => ?_); refine with_tabW armadalaw17_MvsAlone.tab13 armadalaw17_MvsAlone.bits13 (fun HT_ HW_ => ?_)
       generalize wr.drew = w31 at HO_3 HO_4 HB hx119_0 hx119_1 hx119_2 hx119_3 hx119_4 hx119_5 hx121_0 hx121_1 hx121_2 hx121_3 hx121_4 hx121_5 hHeld ⊢
       refine pure_ (i := 0) (N := some 53) (v := ?_) (a' := ?_) #[tt, ff, ff, ff, ff, ff, ff, ff, ff, ff, ff, ff] rfl rfl (any_of HT_.out (by kernel_rfl)) (fun _ _ _ h => h) (Or.inl ⟨by rfl, ?_⟩) ?_ ?_
       rotate_left
       ·
        intro w'
        go_simp
        with_reducible rfl
       rotate_left
       ·
        simp only [Act.put, List.setIfInBounds_toArray, List.set_cons_zero, List.set_cons_succ, i64_w, i32_w]
        rfl
       refine pure_ (i := 1) (N := some 54) (v := ?_) (a' := ?_) #[tt, tt, ff, ff, ff, ff, ff, ff, ff, ff, ff, ff] rfl rfl (any_of HT_.out (by kernel_rfl)) (fun _ _ _ h => h) (Or.inl ⟨by rfl, ?_⟩) ?_ ?_
       rotate_left
       ·
        intro w'
        go_simp
        with_reducible rfl
       rotate_left
       ·
        simp only [Act.put, List.setIfInBounds_toArray, List.set_cons_zero, List.set_cons_succ, i64_w, i32_w]
        rfl
       refine pure_ (i := 2) (N := some 55) (v := ?_) (a' := ?_) #[tt, tt, tt, ff, ff, ff, ff, ff, ff, ff, ff, ff] rfl rfl (any_of HT_.out (by kernel_rfl)) (fun _ _ _ h => h) (Or.inl ⟨by rfl, ?_⟩) ?_ ?_
       rotate_left
       ·
        intro w'
        go_simp
        with_reducible rfl
       rotate_left
       ·
        simp only [Act.put, List.setIfInBounds_toArray, List.set_cons_zero, List.set_cons_succ, i64_w, i32_w]
        rfl
       refine pure_ (i := 5) (N := some 58) (v := ?_) (a' := ?_) #[tt, tt, tt, ff, ff, tt, ff, ff, ff, ff, ff, ff] rfl rfl (any_of HT_.out (by kernel_rfl)) (fun _ _ _ h => h) (Or.inl ⟨by rfl, ?_⟩) ?_ ?_
       rotate_left
       ·
        intro w'
        go_simp
        with_reducible rfl
       rotate_left
       ·
        simp only [Act.put, List.setIfInBounds_toArray, List.set_cons_zero, List.set_cons_succ, i64_w, i32_w]
        rfl
       refine pure_ (i := 6) (N := some 59) (v := ?_) (a' := ?_) #[tt, tt, tt, ff, ff, tt, tt, ff, ff, ff, ff, ff] rfl rfl (any_of HT_.out (by kernel_rfl)) (fun _ _ _ h => h) (Or.inl ⟨by rfl, ?_⟩) ?_ ?_
       rotate_left
       ·
        intro w'
        go_simp
        with_reducible rfl
       rotate_left
       ·
        simp only [Act.put, List.setIfInBounds_toArray, List.set_cons_zero, List.set_cons_succ, i64_w, i32_w]
        rfl
       refine pure_ (i := 7) (N := some 60) (v := ?_) (a' := ?_) #[tt, tt, tt, ff, ff, tt, tt, tt, ff, ff, ff, ff] rfl rfl (any_of HT_.out (by kernel_rfl)) (fun _ _ _ h => h) (Or.inl ⟨by rfl, ?_⟩) ?_ ?_
       rotate_left
       ·
        intro w'
        go_simp
        with_reducible rfl
       rotate_left
       ·
        simp only [Act.put, List.setIfInBounds_toArray, List.set_cons_zero, List.set_cons_succ, i64_w, i32_w]
        rfl
       refine pure_ (i := 8) (N := some 61) (v := ?_) (a' := ?_) #[tt, tt, tt, ff, ff, tt, tt, tt, tt, ff, ff, ff] rfl rfl (any_of HT_.out (by kernel_rfl)) (fun _ _ _ h => h) (Or.inl ⟨by rfl, ?_⟩) ?_ ?_
       rotate_left
       ·
        intro w'
        go_simp
        with_reducible rfl
       rotate_left
       ·
        simp only [Act.put, List.setIfInBounds_toArray, List.set_cons_zero, List.set_cons_succ, i64_w, i32_w]
        rfl
       refine take_ (i := 3) (N := some 56) (v := ?_) (a' := ?_) #[tt, tt, tt, tt, ff, tt, tt, tt, tt, ff, ff, ff] rfl rfl (take_ofW HT_.out HW_.out (by kernel_rfl)) (fun _ _ _ h => h) (Or.inl ⟨by rfl, ?_⟩) hHeld ?_ ?_
       rotate_left
       ·
        rintro w' ⟨s0, s1, s2, s3, s4, s5, s6, s7, s8, s9, s10, s11⟩
        go_simp
        with_reducible rfl
       rotate_left
       ·
        simp only [Act.put, List.setIfInBounds_toArray, List.set_cons_zero, List.set_cons_succ, i64_w, i32_w]
        rfl
       refine take_ (i := 9) (N := some 62) (v := ?_) (a' := ?_) #[tt, tt, tt, tt, ff, tt, tt, tt, tt, tt, ff, ff] rfl rfl (take_ofW HT_.out HW_.out (by kernel_rfl)) (fun _ _ _ h => h) (Or.inl ⟨by rfl, ?_⟩) hHeld ?_ ?_
       rotate_left
       ·
        rintro w' ⟨s0, s1, s2, s3, s4, s5, s6, s7, s8, s9, s10, s11⟩
        go_simp
        with_reducible rfl
       rotate_left
       ·
        simp only [Act.put, List.setIfInBounds_toArray, List.set_cons_zero, List.set_cons_succ, i64_w, i32_w]
        rfl
       refine one_ (i := 4) (N := some 57) #[tt, tt, tt, tt, tt, tt, tt, tt, tt, tt, ff, ff] rfl rfl (one_of HT_.out (by kernel_rfl)) (by decide) (fun K hK => ?_)
       refine goes_ Tryz.func25 (by kernel_rfl) rfl #[.agg #[.string ((rd_T27 l0 x6_2).f0), .int .i64 ((rd_T27 l0 x6_2).f1.f0), .int .i64 ((rd_T27 l0 x6_2).f1.f1), .int .i64 ((rd_T27 l0 x6_2).f1.f2), .string ((rd_T27 l0 x6_2).f1.f3), .string ((rd_T27 l0 x6_2).f1.f4)]] (by rfl) rfl rfl xS ?_
       with_reducible refine (armadaref17_May.calls k2 ((rd_T27 l0 x6_2).f0) ((rd_T27 l0 x6_2).f1.f0) ((rd_T27 l0 x6_2).f1.f1) ((rd_T27 l0 x6_2).f1.f2) ((rd_T27 l0 x6_2).f1.f3) ((rd_T27 l0 x6_2).f1.f4) t120 _ A28.out).mono ?_
       rintro e w32 ⟨rfl, hb⟩
       refine ⟨_, rfl, ?_⟩
       have n0_ := Aside0.mk (Kd.R_below (by (with_reducible repeat (first | apply Kd.R_alloc | apply Kd.R_drewN | apply Kd.R_drew)); exact HO_3.out) hb)
       have n1_ := Aside0.mk (Kd.R_below (by (with_reducible repeat (first | apply Kd.R_alloc | apply Kd.R_drewN | apply Kd.R_drew)); exact HO_4.out) hb)
       have n2_ := Aside0.mk (below_step xB hb)
       clear HO_3
       clear HO_4
       clear HB
       have HO_3 := n0_
       have HO_4 := n1_
       have HB := n2_
       clear n0_ n1_ n2_
       (try clear hb)
       (try clear hb2)
       (try clear hk)
       (try clear hi)
       refine hK.out _ _ ⟨((HB.out.cell (World.block_lt_of_cell? w _ hw119_0)).trans hw119_0), ((HB.out.cell (World.block_lt_of_cell? w _ hw119_1)).trans hw119_1), ((HB.out.cell (World.block_lt_of_cell? w _ hw119_2)).trans hw119_2), ((HB.out.cell (World.block_lt_of_cell? w _ hw119_3)).trans hw119_3), ((HB.out.cell (World.block_lt_of_cell? w _ hw119_4)).trans hw119_4), ((HB.out.cell (World.block_lt_of_cell? w _ hw119_5)).trans hw119_5), ((HB.out.cell (World.block_lt_of_cell? w _ hw121_0)).trans hw121_0), ((HB.out.cell (World.block_lt_of_cell? w _ hw121_1)).trans hw121_1), ((HB.out.cell (World.block_lt_of_cell? w _ hw121_2)).trans hw121_2), ((HB.out.cell (World.block_lt_of_cell? w _ hw121_3)).trans hw121_3), ((HB.out.cell (World.block_lt_of_cell? w _ hw121_4)).trans hw121_4), ((HB.out.cell (World.block_lt_of_cell? w _ hw121_5)).trans hw121_5)⟩ (fun hHeld => ?_)
       clear hK K
       refine norm_ (a' := ?_) ?_ ?_
       rotate_left
       ·
        show Act.put _ (some 57) _ = _
        simp only [Act.put, List.setIfInBounds_toArray, List.set_cons_zero, List.set_cons_succ, i64_w, i32_w]
        rfl
       refine one_ (i := 10) (N := some 63) #[tt, tt, tt, tt, tt, tt, tt, tt, tt, tt, tt, ff] rfl rfl (one_of HT_.out (by kernel_rfl)) (by decide) (fun K hK => ?_)
       refine goes_ Tryz.func23 (by kernel_rfl) rfl #[.slice Ao25 t103.length co25, .agg #[.string ((rd_T27 l0 x6_2).f0), .int .i64 ((rd_T27 l0 x6_2).f1.f0), .int .i64 ((rd_T27 l0 x6_2).f1.f1), .int .i64 ((rd_T27 l0 x6_2).f1.f2), .string ((rd_T27 l0 x6_2).f1.f3), .string ((rd_T27 l0 x6_2).f1.f4)]] (by rfl) rfl rfl xS ?_
       with_reducible refine (armadaref17_In.calls k2 _ _ t103 ((rd_T27 l0 x6_2).f0) ((rd_T27 l0 x6_2).f1.f0) ((rd_T27 l0 x6_2).f1.f1) ((rd_T27 l0 x6_2).f1.f2) ((rd_T27 l0 x6_2).f1.f3) ((rd_T27 l0 x6_2).f1.f4) t122 _ ?side1 ?side2 A29.out).mono ?_
       (case side1 => repeat (first | exact (Kd.R_reads' HO_3.out).2.2 | (with_reducible refine Kd.C_alloc ?_ _) | (with_reducible refine Kd.C_drewN ?_ _) | (with_reducible refine Kd.C_drew ?_)))
       (case side2 => exact (Kd.R_reads' HO_3.out).2.1)
       rintro e w33 ⟨rfl, hb⟩
       refine ⟨_, rfl, ?_⟩
       have n0_ := Aside0.mk (Kd.R_below (by (with_reducible repeat (first | apply Kd.R_alloc | apply Kd.R_drewN | apply Kd.R_drew)); exact HO_3.out) hb)
       have n1_ := Aside0.mk (Kd.R_below (by (with_reducible repeat (first | apply Kd.R_alloc | apply Kd.R_drewN | apply Kd.R_drew)); exact HO_4.out) hb)
       have n2_ := Aside0.mk (below_step xB hb)
       clear HO_3
       clear HO_4
       clear HB
       have HO_3 := n0_
       have HO_4 := n1_
       have HB := n2_
       clear n0_ n1_ n2_
       (try clear hb)
       (try clear hb2)
       (try clear hk)
       (try clear hi)
       refine hK.out _ _ ⟨((HB.out.cell (World.block_lt_of_cell? w _ hw119_0)).trans hw119_0), ((HB.out.cell (World.block_lt_of_cell? w _ hw119_1)).trans hw119_1), ((HB.out.cell (World.block_lt_of_cell? w _ hw119_2)).trans hw119_2), ((HB.out.cell (World.block_lt_of_cell? w _ hw119_3)).trans hw119_3), ((HB.out.cell (World.block_lt_of_cell? w _ hw119_4)).trans hw119_4), ((HB.out.cell (World.block_lt_of_cell? w _ hw119_5)).trans hw119_5), ((HB.out.cell (World.block_lt_of_cell? w _ hw121_0)).trans hw121_0), ((HB.out.cell (World.block_lt_of_cell? w _ hw121_1)).trans hw121_1), ((HB.out.cell (World.block_lt_of_cell? w _ hw121_2)).trans hw121_2), ((HB.out.cell (World.block_lt_of_cell? w _ hw121_3)).trans hw121_3), ((HB.out.cell (World.block_lt_of_cell? w _ hw121_4)).trans hw121_4), ((HB.out.cell (World.block_lt_of_cell? w _ hw121_5)).trans hw121_5)⟩ (fun hHeld => ?_)
       clear hK K
       refine norm_ (a' := ?_) ?_ ?_
       rotate_left
       ·
        show Act.put _ (some 63) _ = _
        simp only [Act.put, List.setIfInBounds_toArray, List.set_cons_zero, List.set_cons_succ, i64_w, i32_w]
        rfl
       refine pure_ (i := 11) (N := some 64) (v := ?_) (a' := ?_) #[tt, tt, tt, tt, tt, tt, tt, tt, tt, tt, tt, tt] rfl rfl (any_of HT_.out (by kernel_rfl)) (fun _ _ _ h => h) (Or.inl ⟨by rfl, ?_⟩) ?_ ?_
       rotate_left
       ·
        intro w'
        go_simp
        with_reducible rfl
       rotate_left
       ·
        simp only [Act.put, List.setIfInBounds_toArray, List.set_cons_zero, List.set_cons_succ, i64_w, i32_w]
        rfl
       refine done_ (done_of HT_.out (by kernel_rfl)) ?_
       try go_wp2
       go_roundg k2
       case measure => have := HK1.out; have := HK2.out; omega
       case rel => exact ⟨(wrap64 (x6_2 + 1)), xR, H', ⟨by have := HK1.out; have := HK2.out; omega⟩, ⟨by (with_reducible repeat (first | apply Kd.R_alloc | apply Kd.R_drewN | apply Kd.R_drew)); exact HO_3.out⟩, ⟨by (with_reducible repeat (first | apply Kd.R_alloc | apply Kd.R_drewN | apply Kd.R_drew)); exact HO_4.out⟩, ⟨xB⟩⟩
      rw [if_neg c26] at H
      have c26b0 := decide_eq_false c26
      clear c26
      have H' := Aside0.mk H
      clear H
      go_wp2
      go_loopg [7] k2 (fun kq v7 w' => ∃ (x7_3 : Int), v7 = .int .i64 x7_3 ∧ Aside0 (armadalaw17_MvsAlone.l2 kq l0 t103 t106 x7_3 = some r) ∧ Aside0 (kq ≤ k2) ∧ Aside0 (Kd.R k27 27 w' w.heap.size (fun k_ => some k_ ≠ (v107 : Value).ownBlock) (.slice Ao25 t103.length co25) t103) ∧ Aside0 (Kd.R k27 27 w' w.heap.size (fun k_ => some k_ ≠ ((.slice Ao25 t103.length co25) : Value).ownBlock) v107 t106) ∧ Aside0 (Below w.heap.size w w'))
      case atStart => exact ⟨(0), xR, H', ⟨Nat.le_refl _⟩, ⟨by (with_reducible repeat (first | apply Kd.R_alloc | apply Kd.R_drewN | apply Kd.R_drew)); exact HO_3.out⟩, ⟨by (with_reducible repeat (first | apply Kd.R_alloc | apply Kd.R_drewN | apply Kd.R_drew)); exact HO_4.out⟩, ⟨xB⟩⟩
      case round =>
       clear H'
       try clear c1
       try clear p1
       try clear q1
       try clear hx1
       try clear c2
       try clear p2
       try clear q2
       try clear c3
       try clear p6
       try clear c9
       try clear c9b0
       try clear c10
       try clear c10b0
       try clear p10
       try clear q10
       try clear hx10
       try clear c11
       try clear p11
       try clear q11
       try clear hx11
       try clear c12
       try clear p12
       try clear q12
       try clear hx12
       try clear c14
       try clear c15
       try clear c15b0
       try clear c16
       try clear c16b0
       try clear c16b1
       try clear c17
       try clear c18
       try clear c23
       try clear q23
       try clear c25
       try clear c26
       try clear c26b0
       try clear c27
       try clear c27b0
       try clear c30
       try clear c30b0
       try clear c30b1
       try clear c30b2
       try clear hx109_0
       try clear hx109_1
       try clear hx109_2
       try clear hx109_3
       try clear hx109_4
       try clear hx109_5
       try clear hx111_0
       try clear hx111_1
       try clear hx111_2
       try clear hx111_3
       try clear hx111_4
       try clear hx111_5
       try clear hx117_0
       try clear hx117_1
       try clear hx117_2
       try clear hx117_3
       try clear hx117_4
       try clear hx117_5
       try clear hx119_0
       try clear hx119_1
       try clear hx119_2
       try clear hx119_3
       try clear hx119_4
       try clear hx119_5
       try clear hx121_0
       try clear hx121_1
       try clear hx121_2
       try clear hx121_3
       try clear hx121_4
       try clear hx121_5
       try clear p1
       try clear p10
       try clear p109
       try clear p11
       try clear p111
       try clear p117
       try clear p119
       try clear p121
       try clear p2
       try clear p6
       try clear q1
       try clear q10
       try clear q109
       try clear q11
       try clear q111
       try clear q117
       try clear q119
       try clear q121
       try clear q2
       try clear q23
       obtain ⟨x7_3, rfl, HA, HK3, HO_3, HO_4, HB⟩ := hrel
       cases gk with
       | zero => exact absurd HA.out (by simp [armadalaw17_MvsAlone.l2])
       | succ k3 =>
        have H := HA.out
        clear HA
        simp only [armadalaw17_MvsAlone.l2] at H
        by_cases c34 : x7_3 < (t106.length : Int)
        ·
         rw [if_pos c34] at H
         have c34b0 := decide_eq_true c34
         clear c34
         replace H := xI H
         obtain ⟨c35, H⟩ := H
         have c35b0 := decide_eq_true c35
         clear c35
         replace H := xb H
         obtain ⟨t124, A36, H⟩ := H
         by_cases c37 : t124 = true
         ·
          subst c37
          rw [if_pos rfl] at H
          have H' := Aside0.mk H
          clear H
          obtain ⟨Ao38, co38, eo38⟩ := Kd.R_slice HO_4.out
          subst eo38
          have p123 : 0 ≤ (x7_3 : Int) := xD
          have q123 : x7_3 < (t106.length : Int) := xD
          obtain ⟨ad123, e123, hx123_0, hx123_1, hx123_2, hx123_3, hx123_4, hx123_5⟩ := at_T27 (Kd.R_reads' HO_4.out).2.2 x7_3 p123 q123
          cases e123
          replace p123 := eq_true p123
          replace q123 := eq_true q123
          go_wp2_with (first | ((with_reducible refine gate_callee (f := 23) rfl ?_); refine goesL_ (some 76) rfl rfl Tryz.func23 (by kernel_rfl) rfl #[.slice A0 l0.length c0, .agg #[.string ((rd_T27 t106 x7_3).f0), .int .i64 ((rd_T27 t106 x7_3).f1.f0), .int .i64 ((rd_T27 t106 x7_3).f1.f1), .int .i64 ((rd_T27 t106 x7_3).f1.f2), .string ((rd_T27 t106 x7_3).f1.f3), .string ((rd_T27 t106 x7_3).f1.f4)]] rfl xS ?_; (with_reducible refine (armadaref17_In.calls k3 _ _ l0 ((rd_T27 t106 x7_3).f0) ((rd_T27 t106 x7_3).f1.f0) ((rd_T27 t106 x7_3).f1.f1) ((rd_T27 t106 x7_3).f1.f2) ((rd_T27 t106 x7_3).f1.f3) ((rd_T27 t106 x7_3).f1.f4) true _ ?side1 ?side2 A36.out).mono ?_); (case side1 => repeat (first | exact (Kd.C_below HR0.out HB.out) | (with_reducible refine Kd.C_alloc ?_ _) | (with_reducible refine Kd.C_drewN ?_ _) | (with_reducible refine Kd.C_drew ?_))); (case side2 => exact HC0.out); rintro e w39 ⟨rfl, hb⟩; refine ⟨_, rfl, ?_⟩; replace HO_3 := Aside0.mk (Kd.R_below (by (with_reducible repeat (first | apply Kd.R_alloc | apply Kd.R_drewN | apply Kd.R_drew)); exact HO_3.out) hb); replace HO_4 := Aside0.mk (Kd.R_below (by (with_reducible repeat (first | apply Kd.R_alloc | apply Kd.R_drewN | apply Kd.R_drew)); exact HO_4.out) hb); replace HB := Aside0.mk (below_step xB hb); (try clear hb); (try clear hb2); (try clear hk); (try clear hi)))
          go_roundg k3
          case measure => have := HK1.out; have := HK2.out; have := HK3.out; omega
          case rel => exact ⟨(wrap64 (x7_3 + 1)), xR, H', ⟨by have := HK1.out; have := HK2.out; have := HK3.out; omega⟩, ⟨by (with_reducible repeat (first | apply Kd.R_alloc | apply Kd.R_drewN | apply Kd.R_drew)); exact HO_3.out⟩, ⟨by (with_reducible repeat (first | apply Kd.R_alloc | apply Kd.R_drewN | apply Kd.R_drew)); exact HO_4.out⟩, ⟨xB⟩⟩
         replace c37 := Bool.eq_false_iff.mpr c37
         subst c37
         rw [if_neg (show ¬ (false = true) by decide)] at H
         exact absurd ((Option.some.inj H).trans HTRU_.out) (by decide)
        rw [if_neg c34] at H
        have c34b0 := decide_eq_false c34
        clear c34
        by_cases c40 : (t106.length : Int) ≤ (t103.length : Int)
        ·
         rw [if_pos c40] at H
         have c40b0 := decide_eq_true c40
         have c40b1 : decide (t106.length ≤ t103.length) = true := decide_eq_true (Int.ofNat_le.mp c40)
         clear c40
         replace H := xb H
         obtain ⟨t125, A41, H⟩ := H
         obtain rfl := Option.some.inj H
         obtain ⟨Ao42, co42, eo42⟩ := Kd.R_slice HO_4.out
         subst eo42
         go_wp2_with (first | (go_at_call 12; (with_reducible refine (armadalaw17_live.calls  t125 _ ?side1 ?side2 A41.out).mono ?_); (case side1 => exact GW.below HGW.out xB); (case side2 => exact HTRU_.out); rintro e w43 ⟨rfl, hb⟩; replace HO_3 := Aside0.mk (Kd.R_below (by (with_reducible repeat (first | apply Kd.R_alloc | apply Kd.R_drewN | apply Kd.R_drew)); exact HO_3.out) hb); replace HO_4 := Aside0.mk (Kd.R_below (by (with_reducible repeat (first | apply Kd.R_alloc | apply Kd.R_drewN | apply Kd.R_drew)); exact HO_4.out) hb); replace HB := Aside0.mk (below_step xB hb); (try clear hb); (try clear hb2); (try clear hk); (try clear hi)))
         go_ret
         exact ⟨by first | rfl | (simp [errW_none, errW_some] <;> rfl) | (simp [*, errW_none, errW_some] <;> rfl) | (simp [isEmpty_bne]; done), xB⟩
        rw [if_neg c40] at H
        have c40b0 := decide_eq_false c40
        have c40b1 : decide (t106.length ≤ t103.length) = false := decide_eq_false (fun h => c40 (Int.ofNat_le.mpr h))
        clear c40
        exact absurd ((Option.some.inj H).trans HTRU_.out) (by decide)
 replace c3 := Bool.eq_false_iff.mpr c3
 subst c3
 rw [if_neg (show ¬ (false = true) by decide)] at H
 replace H := xb H
 obtain ⟨t102, A44, H⟩ := H
 obtain rfl := Option.some.inj H
 go_enter Tryz.func9, Tryz.ntmps9
 go_wp2_with (first | ((with_reducible refine gate_callee (f := 11) rfl ?_); refine goesL_ (some 9) rfl rfl Tryz.func11 (by kernel_rfl) rfl #[.slice A0 l0.length c0, .slice none 0 0] rfl xS ?_; (refine (armadaref17_Small.calls k _ _ l0 _ _ ([] : List (S46)) false _ ?side1 ?side2 ?side3 ?side4 A2.out).mono ?_); (case side1 => repeat (first | exact HR0.out | (with_reducible refine Kd.C_alloc ?_ _) | (with_reducible refine Kd.C_drewN ?_ _) | (with_reducible refine Kd.C_drew ?_))); (case side2 => exact HC0.out); (case side3 => exact Kd.C_nil _ _); (case side4 => exact Nat.le_refl _); rintro e w45 ⟨rfl, hb⟩; refine ⟨_, rfl, ?_⟩; replace HB := Aside0.mk (below_step xB hb); (try clear hb); (try clear hb2); (try clear hk); (try clear hi)) | ((with_reducible refine gate_callee (f := 12) rfl ?_); refine goesL_ (some 11) rfl rfl Tryz.func12 (by kernel_rfl) rfl #[] rfl xS ?_; (with_reducible refine (armadalaw17_live.calls  t102 _ ?side1 ?side2 A44.out).mono ?_); (case side1 => exact GW.below HGW.out xB); (case side2 => exact HTRU_.out); rintro e w46 ⟨rfl, hb⟩; refine ⟨_, rfl, ?_⟩; replace HB := Aside0.mk (below_step xB hb); (try clear hb); (try clear hb2); (try clear hk); (try clear hi)))
 go_ret
 exact ⟨by first | rfl | (simp [errW_none, errW_some] <;> rfl) | (simp [*, errW_none, errW_some] <;> rfl) | (simp [isEmpty_bne]; done), xB⟩
end Go.Proofs.YtkidfclnakbgiaaGreatDoor.LAlone
end

section
namespace Go.Proofs.YtkidfclnakbgiaaGreatDoor.LAlone
open Go.RowKit Go.Proofs.YtkidfclnakbgiaaGreatDoor Go.Proofs.YtkidfclnakbgiaaGreatDoor.K0 Go.Proofs.YtkidfclnakbgiaaGreatDoor.RD Go.Proofs.YtkidfclnakbgiaaGreatDoor.RO Go.Proofs.YtkidfclnakbgiaaGreatDoor.RS Go.Proofs.YtkidfclnakbgiaaGreatDoorW.PrintWords Go.Proofs.YtkidfclnakbgiaaGreatDoorW.PrintLast Go.Proofs.YtkidfclnakbgiaaGreatDoorW.PrintMore
attribute [local go_sem] max2_int min2_int max_two min_two max_three min_three max_four min_four
set_option linter.unusedVariables false
set_option linter.unusedSimpArgs false
end Go.Proofs.YtkidfclnakbgiaaGreatDoor.LAlone
end

section
namespace Go.Proofs.YtkidfclnakbgiaaGreatDoor
open Go Go.RowKit Go.Proofs Go.Proofs.YtkidfclnakbgiaaGreatDoorW.PrintWords Go.Proofs.YtkidfclnakbgiaaGreatDoor.K0 Go.Proofs.YtkidfclnakbgiaaGreatDoor.RD Go.Proofs.YtkidfclnakbgiaaGreatDoor.RS Go.Proofs.YtkidfclnakbgiaaGreatDoor.RO Go.Proofs.YtkidfclnakbgiaaGreatDoor.LAlone
set_option linter.unusedVariables false
set_option linter.unusedSimpArgs false
theorem alone_l2 (root : List Rq) (hr : root.length ≤ 12) : Ev (fun k => armadalaw17_MvsAlone.l2 k root (mv.reached root []) (mv.list root []) 0) true := by
  have hlen := list_len root ([] : List (Rq × List Rq))
  rw [List.flatMap_nil, List.length_nil] at hlen
  have hle := Mv.alone_len mv_good root ([] : List (Rq × List Rq))
  refine ev_from (mv.list root []).length (fun k n => armadalaw17_MvsAlone.l2 k root (mv.reached root []) (mv.list root []) (n : Int)) (fun _ => true) ?_ ?_ 0 (Nat.zero_le _)
  · refine ev_succ ?_
    simp only [armadalaw17_MvsAlone.l2, Int.lt_irrefl, if_false, if_pos (show ((mv.list root []).length : Int) ≤ ((mv.reached root []).length : Int) from by omega)]
    exact live_ev
  · intro n hn h
    obtain ⟨x, h1, h2, h3⟩ := rdR_at hn
    have hm := Mv.alone_iff.1 (mv.reached_mem.1 (Mv.least_in mv_good (List.mem_of_getElem? h3)))
    refine ev_succ ?_
    simp only [armadalaw17_MvsAlone.l2, if_pos (show (n : Int) < ((mv.list root []).length : Int) from by omega), if_pos (show (0 : Int) ≤ (n : Int) from by omega), h1, wrap_s (show n < 9223372036854775807 by omega)]
    refine Ev.bind (ev_eq (In_f root x (by omega)) (decide_eq_true hm.1)) ?_
    simp only [if_true]
    exact h
theorem alone_l1 (root : List Rq) (hr : root.length ≤ 12) : Ev (fun k => armadalaw17_MvsAlone.l1 k root (mv.reached root []) (mv.list root []) 0) true := by
  have hlen := reached_len root ([] : List (Rq × List Rq))
  rw [List.flatMap_nil, List.length_nil] at hlen
  refine ev_from root.length (fun k n => armadalaw17_MvsAlone.l1 k root (mv.reached root []) (mv.list root []) (n : Int)) (fun _ => true) ?_ ?_ 0 (Nat.zero_le _)
  · refine ev_succ ?_
    simp only [armadalaw17_MvsAlone.l1, Int.lt_irrefl, if_false]
    exact alone_l2 root hr
  · intro n hn h
    obtain ⟨x, h1, h2, h3⟩ := rdR_at hn
    have hx := List.mem_of_getElem? h3
    refine ev_succ ?_
    simp only [armadalaw17_MvsAlone.l1, if_pos (show (n : Int) < (root.length : Int) from by omega), if_pos (show (0 : Int) ≤ (n : Int) from by omega), h1, wrap_s (show n < 9223372036854775807 by omega)]
    refine Ev.bind (May_f x) ?_
    refine Ev.bind (ev_eq (In_f (mv.reached root []) x (by omega)) (b := mv.may x) ?_) ?_
    · rw [Bool.eq_iff_iff, decide_eq_true_eq]
      exact ⟨fun h => (Mv.alone_iff.1 (mv.reached_mem.1 h)).2, fun h => mv.reached_mem.2 (Mv.alone_iff.2 ⟨hx, h⟩)⟩
    · simp only [bne_self_eq_false, Bool.false_eq_true, if_false]
      exact h
theorem alone_l0 (root : List Rq) (hr : root.length ≤ 12) : Ev (fun k => armadalaw17_MvsAlone.l0 k root (mv.reached root []) (mv.list root []) 0) true := by
  have hlen := reached_len root ([] : List (Rq × List Rq))
  rw [List.flatMap_nil, List.length_nil] at hlen
  refine ev_from (mv.reached root []).length (fun k n => armadalaw17_MvsAlone.l0 k root (mv.reached root []) (mv.list root []) (n : Int)) (fun _ => true) ?_ ?_ 0 (Nat.zero_le _)
  · refine ev_succ ?_
    simp only [armadalaw17_MvsAlone.l0, Int.lt_irrefl, if_false]
    exact alone_l1 root hr
  · intro n hn h
    obtain ⟨x, h1, h2, h3⟩ := rdR_at hn
    have hm := Mv.alone_iff.1 (mv.reached_mem.1 (List.mem_of_getElem? h3))
    have hf := Mv.nodup_first (mv.reached_nodup root []) h3
    refine ev_succ ?_
    simp only [armadalaw17_MvsAlone.l0, if_pos (show (n : Int) < ((mv.reached root []).length : Int) from by omega), if_pos (show (n : Int) ≤ ((mv.reached root []).length : Int) from by omega), if_pos (show (0 : Int) ≤ (n : Int) from by omega), h1, wrap_s (show n < 9223372036854775807 by omega), Int.toNat_natCast]
    refine Ev.bind (ev_eq (In_f root x (by omega)) (decide_eq_true hm.1)) ?_
    simp only [if_true]
    refine Ev.bind (ev_eq (May_f x) hm.2) ?_
    simp only [if_true]
    refine Ev.bind (ev_eq (In_f ((mv.reached root []).take n) x (by rw [List.length_take]; omega)) (decide_eq_false hf)) ?_
    simp only [Bool.false_eq_true, if_false]
    exact h
theorem alone_ev (root : List Rq) (hl : root.length ≤ 9223372036854775807) : Ev (fun k => armadalaw17_MvsAlone.f k root) true := by
  unfold armadalaw17_MvsAlone.f
  refine Ev.bind (small_f root [] hl (by simp) (by simp)) ?_
  cases hs : smallB root []
  · simp only [Bool.false_eq_true, if_false]; exact live_ev
  · simp only [if_true]
    have S := small_is hs
    refine Ev.bind (reached_f (a := root) (l := []) (by have := S.rl; simp; omega)) ?_
    refine Ev.bind (list_f (a := root) (l := []) (by have := S.rl; simp; omega)) ?_
    exact alone_l0 root S.rl
theorem alone_pure (root : List Rq) (hl : root.length ≤ 9223372036854775807) : ∃ k, armadalaw17_MvsAlone.f k root = some true := (alone_ev root hl).rounds
end Go.Proofs.YtkidfclnakbgiaaGreatDoor
end

section
namespace Go.Proofs.YtkidfclnakbgiaaGreatDoor
open Go Go.ChangeShapes Go.WideShapes Go.ChangeAt Go.RowKit Go.Joins Go.Deep Go.Proofs.YtkidfclnakbgiaaGreatDoor.LAlone
set_option linter.unusedVariables false
set_option maxRecDepth 100000 in
theorem mvsAlone_lifted (os : Os) (started : os.Started) (H : Type) (enc : TypeId × Value → H) :
    ReturnsInHanded {} Tryz.checked os 9 .any (fun w args => (Rows.mvsAloneSpec.pre enc Tryz.prog Tryz.f9 Rows.mvsAloneRow.domain false w args ∧ laidMetH Tryz.prog Rows.mvsAloneRow.laid w) ∧ sizedMet enc Tryz.prog Tryz.f9 (OpenSpec.ofChange Rows.mvsAloneSpec) false w args)
      (Rows.mvsAloneSpec.post enc Tryz.prog Tryz.f9 false true false false) := by
  refine lifted_of (C := Tryz.checked) (tb := 4) laidOut rfl own started (by kernel_rfl) Tryz.func9 (by kernel_rfl) (by kernel_rfl) Tryz.underlying4 ?_
    (ChangeSpec.witness_shaped (enc := enc) (C := Tryz.checked) (os := os) (X := fun w _ => laidMetH Tryz.prog Rows.mvsAloneRow.laid w) false (World.laidAll Tryz.prog os Rows.mvsAloneRow.laid) #[.slice none 0 0] 8 (World.laidAll_os _ _ _)
      (World.shaped_of_ZipB (by kernel_rfl) (by kernel_rfl)) (by kernel_rfl) (by kernel_rfl) (by kernel_rfl)
      (by rw [MakeChecks.laidMetH_plain _ _ _ (by kernel_rfl)]; exact laidMet_laidAll _ (by kernel_rfl) (by kernel_rfl))) ?_
  · intro ds hd
    match ds, hd.trans (show Tryz.f9.params.size = 1 by kernel_rfl) with
    | [_], _ => rfl
  · intro W base args ds ps hval0 hA0 hz hsh hL
    have hval : ∀ (j : Nat) t v, Tryz.f9.params[j]? = some t → args[j]? = some v → Value.okWide Tryz.prog W .any base t v := hval0
    have hA : DataW.TrodAll enc Tryz.prog W 0 (fun _ => true) true Tryz.f9.params.toList args.toList ds ps := hA0
    rw [Tryz.params9] at hA hval
    obtain ⟨v0, d0, rfl, rfl, h0⟩ := trodAll_one hA
    obtain ⟨A0, c0, x0, rfl, hc0, hr0⟩ := arg_reqs (hval 0 22 v0 rfl rfl) h0
    obtain ⟨k, hk⟩ := alone_pure x0 hr0.2.1
    exact armadalaw17_MvsAlone.calls k A0 c0 x0 true W hr0 hc0 (gw_of hsh hL) rfl hk
theorem mvsAlone_holds : Rows.MvsAloneSaid :=
  OpenClaim.holds_of_wide 9 Tryz.f9 rfl rfl rfl rfl rfl rfl rfl ⟨rfl, rfl, rfl, rfl, rfl⟩ rfl rfl rfl rfl rfl (by kernel_rfl) Tryz.func9 (by kernel_rfl)
    (of_decide_eq_true (by kernel_rfl)) (by unfold Func.isWrapper; first | (rw [if_pos (by decide +kernel)]; kernel_rfl) | (rw [if_neg (by decide +kernel)]; exact ⟨rfl, rfl⟩))
    (fun os started H enc _ => mvsAlone_lifted os started H enc)
theorem mvsAlone_card : Rows.MvsAloneCardSaid :=
  Claim7.holds_tied_plain_at .later [] [.data, .data, .data, .data, .sentinel, .sentinel, .pinned] true (true, "5949cf66e13fd1f391be309675234d90056db7f2d948a31634a7fe3da95e5fd9") true mvsAlone_holds (fun _ h => by cases h) (by kernel_rfl) (fun _ h => by cases h) mvsAlone_row_tie rfl ⟨rfl, rfl⟩ (by kernel_rfl) rfl
    (fun f fn hf hfn => by
      obtain rfl : f = 9 := Option.some.inj ((show Tryz.prog.funcNamed "armada/armadalaw17.MvsAlone" = some 9 by kernel_rfl).symm.trans hf) |>.symm
      obtain rfl : fn = Tryz.f9 := (Option.some.inj (Tryz.func9.symm.trans hfn)).symm
      exact ⟨by kernel_rfl, fun j t ht => by
        rw [Tryz.params9] at ht
        have hm : t ∈ [22] := by simpa using Array.mem_of_getElem? ht
        have hall : ([22].all fun u => !Tryz.prog.wantsStandIn u) = true := by kernel_rfl
        exact (show Tryz.prog.wantsStandIn t = false by simpa using List.all_eq_true.1 hall t hm)⟩)
    (by kernel_rfl)
#print axioms mvsAlone_card
end Go.Proofs.YtkidfclnakbgiaaGreatDoor
end
