/- The law armadalaw17.MvsRoots answers true whatever it is handed, and what it was handed reads as it did; its tied card holds.
   Conditions: those of the row and the card alone: the listed variables of Go's library hold what the program's own text lays in them. -/
import Derived.Test.YtkidfclnakbgiaaGreatDoorZS9
import Derived.Test.YtkidfclnakbgiaaGreatDoorTie
import Derived.Test.YtkidfclnakbgiaaGreatDoorCards
import Derived.ProofKit
import Derived.OpenShut
import Derived.LaidMore
import Derived.Lay
import Derived.SevenTiedAt
import Derived.Stop.Joined
import Derived.Stop.LaidErr
import Derived.Carry
import Derived.Shelf.Vars
import Derived.Handed
import Derived.JoinedOf
import Derived.Test.YtkidfclnakbgiaaGreatDoorZS10
import Derived.Test.YtkidfclnakbgiaaGreatDoorZS36
import Derived.Test.YtkidfclnakbgiaaGreatDoorZS43
import Derived.Test.YtkidfclnakbgiaaGreatDoorZS40
import Derived.Test.YtkidfclnakbgiaaGreatDoorZS41
import Derived.Test.YtkidfclnakbgiaaGreatDoorZS44
import Derived.Test.YtkidfclnakbgiaaGreatDoorZS45
import Derived.Lib.SmallJoins
section
namespace Go.Proofs.YtkidfclnakbgiaaGreatDoor
open Go Go.ChangeShapes Go.WideShapes Go.ChangeAt Go.RowKit Go.Joins Go.Deep Go.Proofs.YtkidfclnakbgiaaGreatDoorW.PrintWords
set_option linter.unusedVariables false
theorem own : ownKnob Tryz.prog.godebug = none := by kernel_rfl
theorem laidOut : laidOutB Tryz.prog = true := by kernel_rfl
section
variable {H : Type} {enc : TypeId × Value → H} {P : Program}
theorem trodAll_carry (hl : laidOutB P = true) {W W' : World} (hb : Below W.heap.size W W') : ∀ {ts : List TypeId} {vs : List Value} {ds : List (DataW H)} {ps : List MemPlace},
    (ts.all fun t => P.readableRec t && decide (t < P.types.size)) = true → DataW.TrodAll enc P W 0 (fun _ => true) true ts vs ds ps → ∀ sp : Nat → Bool, (∀ p ∈ ps, sp p.block = true) → DataW.TrodAll enc P W' 0 sp true ts vs ds ps
  | [], [], [], _, _, h, _, _ => h
  | [], [], _ :: _, _, _, h, _, _ => h.elim
  | [], _ :: _, _, _, _, h, _, _ => h.elim
  | _ :: _, [], _, _, _, h, _, _ => h.elim
  | _ :: _, _ :: _, [], _, _, h, _, _ => h.elim
  | t :: ts, v :: vs, d :: ds, ps, hr, h, sp, hs => by
    have hlt := h.lt
    obtain ⟨p, q, h1, h2, rfl⟩ := h
    simp only [List.all_cons, Bool.and_eq_true, decide_eq_true_eq] at hr
    exact ⟨p, q, WideElems.Trod_stays hl hr.1.1 hr.1.2 h1 (fun x hx => hb.same (hlt x (by simp [hx]))) (fun x hx => hs x (by simp [hx])),
      trodAll_carry hl hb (by simpa using hr.2) h2 sp (fun x hx => hs x (by simp [hx])), rfl⟩
theorem post_true {f : Func} {s : ChangeSpec} {W W' : World} {args : Array Value} {ds : List (DataW H)} {before : List MemPlace} {tb : TypeId} (hl : laidOutB P = true) (hv : s.vars = [])
    (hW : DataW.Whole enc P f.params.toList s.vars false W args.toList ds [] before) (hr : (f.params.toList.all fun t => P.readableRec t && decide (t < P.types.size)) = true)
    (hres : f.resultTypes = #[tb]) (hbool : P.underlying tb = some .bool) (hfn : s.fn H (ds ++ []) = { results := [.lit (.bool true)], args := ds }) (hb : Below W.heap.size W W') :
    s.post enc P f false true false false W args (.bool true) W' := by
  have hlt := hW.lt
  obtain ⟨p, q, hA, hV, hpq, hz, hn⟩ := hW
  have hq : q = [] := by rw [hv] at hV; exact hV
  subst hq
  rw [List.append_nil] at hpq
  subst hpq
  refine ⟨ds, [], before, [], before, [], ⟨before, [], hA, hV, (List.append_nil _).symm, hz, hn⟩, ?_, ?_, ?_, hb.frame _, fun h => by cases h⟩
  · rw [hfn, hres]
    exact trodAll_mk1 (shut_bool hbool _)
  · rw [hfn]
    exact trodAll_carry hl hb hr hA _ (fun x hx => by simpa using hlt x hx)
  · rw [hfn, hv]
    exact rfl
theorem lifted_of {C : Checked} {os : Os} {f : FuncId} {fn : Func} {s : ChangeSpec} {conds : List PathCond} {laid : List (String × DataW Unit)} {tb : TypeId} (hl : laidOutB C.prog = true) (hv : s.vars = [])
    (own : ownKnob C.prog.godebug = none) (started : os.Started) (noInit : C.prog.inits.idxOf? f = none) (hfn : C.prog.funcs[f]? = some fn)
    (hr : (fn.params.toList.all fun t => C.prog.readableRec t && decide (t < C.prog.types.size)) = true)
    (hres : fn.resultTypes = #[tb]) (hbool : C.prog.underlying tb = some .bool)
    (hspec : ∀ ds : List (DataW H), ds.length = fn.params.size → s.fn H (ds ++ []) = { results := [.lit (.bool true)], args := ds })
    (witness : ∃ (w : World) (tape : Tape) (i : Input), w.os = os ∧ (w.forCall tape i).Shaped C.prog ∧ i.vars = [] ∧ Input.okWide C.prog (w.forCall tape i) .any w.heap.size f i ∧
      ((s.pre enc C.prog fn conds false (w.forCall tape i).memory i.args ∧ laidMetH C.prog laid (w.forCall tape i).memory) ∧ sizedMet enc C.prog fn (OpenSpec.ofChange s) false (w.forCall tape i).memory i.args) ∧
      ({} : Assume).holds C.prog (lone (Frame.enter C.prog f i.args .normal) [] (w.forCall tape i)))
    (law : ∀ (W : World) (base : Nat) (args : Array Value) (ds : List (DataW H)) (ps : List MemPlace),
      (∀ (j : Nat) t v, fn.params[j]? = some t → args[j]? = some v → Value.okWide C.prog W .any base t v) →
      DataW.TrodAll enc C.prog W 0 (fun _ => true) true fn.params.toList args.toList ds ps →
      (DataW.weightsEach C.prog fn.params.toList ds).all (· ≤ reachBytes) = true →
      W.ShapedOpen C.prog → laidMetH C.prog laid W →
      Calls C.prog f args W fun e W' => e = .returned (.bool true) ∧ Below W.heap.size W W') :
    ReturnsInHanded {} C os f .any (fun w args => (s.pre enc C.prog fn conds false w args ∧ laidMetH C.prog laid w) ∧ sizedMet enc C.prog fn (OpenSpec.ofChange s) false w args) (s.post enc C.prog fn false true false false) := by
  refine returnsInHanded_of_calls own started noInit witness ?_
  intro w tape i _ hsh _ hok hpre hholds
  obtain ⟨_, _, _, fn', hfn', _, _, _, _, hval⟩ := hok
  have e : fn' = fn := Option.some.inj (hfn'.symm.trans hfn)
  subst e
  obtain ⟨⟨⟨ds, gs, before, hw, hc⟩, hx⟩, hz⟩ := hpre
  have hgs : gs = [] := by
    obtain ⟨_, _, _, hV, _⟩ := hw
    rw [hv] at hV
    cases gs with
    | nil => rfl
    | cons _ _ => exact hV.elim
  subst hgs
  have hw' := DataW.Whole.of_heap (w' := w.forCall tape i) (by rfl) hw
  have hz' := hz.weights hw
  obtain ⟨p, q, hA, _⟩ := hw'
  have hlen : ∀ {ts : List TypeId} {vs : List Value} {ds : List (DataW H)} {ps : List MemPlace}, DataW.TrodAll enc C.prog (w.forCall tape i) 0 (fun _ => true) true ts vs ds ps → ds.length = ts.length := by
    intro ts
    induction ts with
    | nil => intro vs ds ps h; cases vs <;> cases ds <;> first | rfl | exact h.elim
    | cons t ts ih =>
      intro vs ds ps h
      cases vs <;> cases ds <;> first | exact h.elim | skip
      obtain ⟨_, _, _, h2, _⟩ := h
      simp [ih h2]
  have hz2 : (DataW.weightsEach C.prog fn'.params.toList ds).all (· ≤ reachBytes) = true := by
    have e1 : (OpenSpec.ofChange s).bare.plain.varTypes C.prog = [] := by
      show s.plain.varTypes C.prog = []
      unfold DataSpec.varTypes ChangeSpec.plain
      simp [hv]
    rw [e1, List.append_nil, List.append_nil] at hz'
    exact hz'
  refine (law (w.forCall tape i) w.heap.size i.args ds p hval hA hz2 hsh (hx.of_heap (by rfl))).mono fun e W' ⟨he, hb⟩ => ?_
  subst he
  refine ChangeSpec.post_blind (post_true hl hv (DataW.Whole.of_heap (w' := w.forCall tape i) (by rfl) hw) hr hres hbool (hspec ds ?_) hb)
  rw [hlen hA]; simp
end
theorem laid_mem {P : Program} {W : World} {x : String × DataW Unit} : ∀ {l : List (String × DataW Unit)}, laidMet P l W → x ∈ l → ∃ r, laidMet P (x :: r) W
  | [], _, h => by cases h
  | y :: l, hl, h => by
    rcases List.mem_cons.1 h with rfl | h'
    · exact ⟨l, hl⟩
    · exact laid_mem hl.tail h'
theorem iface_var {P : Program} {W : World} {n nm : String} {d : DataW Unit} {r : List (String × DataW Unit)} {g : Nat} {ti : TypeId} {ms : Array (String × TypeId)} (h : laidMet P ((n, .iface nm d) :: r) W)
    (hg : P.globalNamed n = some g) (ht : (P.globals[g]?).map (·.type) = some ti) (hi : P.underlying ti = some (.interface ms)) : ∃ tp p, W.var? P n = some #[.iface tp p] := by
  obtain ⟨ps, ⟨g0, t0, cs0, f0, p0, q0, hg0, ht0, hv0, hd0, _, _⟩, _, _⟩ := h
  obtain rfl := Option.some.inj (hg.symm.trans hg0)
  obtain rfl := Option.some.inj (ht.symm.trans ht0)
  obtain ⟨l0⟩ := cs0
  cases f0 with
  | zero => cases hd0
  | succ f0 =>
    unfold DataW.trod at hd0
    rw [hi] at hd0
    split at hd0 <;> first
      | (rename_i h1 h2; cases h1; done)
      | skip
    all_goals first
      | (cases hd0; done)
      | (rename_i u v h1 h2; simp only at h2; subst h2; exact ⟨u, v, hv0⟩)
      | skip
    all_goals (rename_i h1; cases h1)
section
variable {H : Type} {enc : TypeId × Value → H} {P : Program} {w : World} {base : Nat} {spare : Nat → Bool} {held : Bool}
end
/-- What the row lists gives the walk's world. -/
theorem gw_of {W : World} (h : W.ShapedOpen Tryz.prog) (hl : laidMetH Tryz.prog Rows.mvsRootsRow.laid W) : GW W := by
  rw [MakeChecks.laidMetH_plain _ _ _ (by kernel_rfl)] at hl
  obtain ⟨_, h1⟩ := laid_mem (x := ("internal/strconv.uint64pow10", Rows.laid_internal_strconv_uint64pow10)) hl (by repeat (first | exact List.mem_cons_self .. | apply List.mem_cons_of_mem))
  obtain ⟨_, h2⟩ := laid_mem (x := ("strconv.ErrRange", Rows.laid_strconv_ErrRange)) hl (by repeat (first | exact List.mem_cons_self .. | apply List.mem_cons_of_mem))
  obtain ⟨_, h3⟩ := laid_mem (x := ("strconv.ErrSyntax", Rows.laid_strconv_ErrSyntax)) hl (by repeat (first | exact List.mem_cons_self .. | apply List.mem_cons_of_mem))
  exact {
    maxLen := cell_of_shapedOpen_int (P := Tryz.prog) (g := 0) (t := 3) (zero := #[.int .i64 0]) h (of_decide_eq_true (by kernel_rfl)) (by kernel_rfl) rfl (by kernel_rfl) (by kernel_rfl) Tryz.underlying3
    pow10 := Lib.tabIs_of_head (k := .u64) (zs := Lib.pow10Tab) (g := 5) (t := 181) (e := 102) (n := 20) (by kernel_rfl) (by kernel_rfl) (by kernel_rfl) (by kernel_rfl) (by kernel_rfl) (by kernel_rfl)
      (show laidMet _ ((_, Lib.tabData .u64 Lib.pow10Tab) :: _) _ from (show Rows.laid_internal_strconv_uint64pow10 = (Lib.tabData .u64 Lib.pow10Tab : DataW Unit) from by kernel_rfl) ▸ h1)
    errS := iface_var h3 (g := 1) (ti := 130) (by kernel_rfl) (by kernel_rfl) Tryz.underlying130
    errR := iface_var h2 (g := 2) (ti := 130) (by kernel_rfl) (by kernel_rfl) Tryz.underlying130 }
end Go.Proofs.YtkidfclnakbgiaaGreatDoor
end

section
namespace Go.Proofs.YtkidfclnakbgiaaGreatDoor.LRoots
open Go.RowKit Go.Proofs.YtkidfclnakbgiaaGreatDoor Go.Proofs.YtkidfclnakbgiaaGreatDoor.K0 Go.Proofs.YtkidfclnakbgiaaGreatDoor.RD Go.Proofs.YtkidfclnakbgiaaGreatDoor.RO Go.Proofs.YtkidfclnakbgiaaGreatDoor.RS Go.Proofs.YtkidfclnakbgiaaGreatDoorW.PrintWords Go.Proofs.YtkidfclnakbgiaaGreatDoorW.PrintLast Go.Proofs.YtkidfclnakbgiaaGreatDoorW.PrintMore
attribute [local go_sem] max2_int min2_int max_two min_two max_three min_three max_four min_four
set_option linter.unusedVariables false
set_option linter.unusedSimpArgs false
end Go.Proofs.YtkidfclnakbgiaaGreatDoor.LRoots
end

section
namespace Go.Proofs.YtkidfclnakbgiaaGreatDoor.LRoots
open Go.RowKit Go.Proofs.YtkidfclnakbgiaaGreatDoor Go.Proofs.YtkidfclnakbgiaaGreatDoor.K0 Go.Proofs.YtkidfclnakbgiaaGreatDoor.RD Go.Proofs.YtkidfclnakbgiaaGreatDoor.RO Go.Proofs.YtkidfclnakbgiaaGreatDoor.RS Go.Proofs.YtkidfclnakbgiaaGreatDoorW.PrintWords Go.Proofs.YtkidfclnakbgiaaGreatDoorW.PrintLast Go.Proofs.YtkidfclnakbgiaaGreatDoorW.PrintMore
attribute [local go_sem] max2_int min2_int max_two min_two max_three min_three max_four min_four
set_option linter.unusedVariables false
set_option linter.unusedSimpArgs false
mutual
def armadalaw17_MvsRoots.j0 : Nat → List (S27) → List (S27) → List (S46) → Bool → Option (Bool)
 | 0, _, _, _, _ => none
 | k + 1, x0, x1, x2, x33 => if x33 = true then ((armadalaw17_live.f).bind fun t103 => (some t103)) else ((armadalaw17_own.f k x2).bind fun t104 => (if ([] : List (S27)).length + x0.length < 1954687338268 then ((some (([] : List (S27)) ++ x0 : List (S27))).bind fun y107 => (if y107.length + x1.length < 1954687338268 then ((mvs_List.f x0 t104).bind fun t113 => ((mvs_List.f x1 t104).bind fun t116 => ((mvs_List.f (y107 ++ x1) t104).bind fun t119 => (armadalaw17_MvsRoots.l0 k t113 t116 t119 0)))) else (none))) else (none)))
def armadalaw17_MvsRoots.l0 : Nat → List (S27) → List (S27) → List (S27) → Int → Option (Bool)
 | 0, _, _, _, _ => none
 | k + 1, x9, x10, x11, x12 => if x12 < (x11.length : Int) then (if 0 ≤ x12 then ((armadalaw17_covers.f k x11 ((rd_T27 x11 x12).f0) ((rd_T27 x11 x12).f1.f0) ((rd_T27 x11 x12).f1.f1) ((rd_T27 x11 x12).f1.f2) ((rd_T27 x11 x12).f1.f3) ((rd_T27 x11 x12).f1.f4)).bind fun t123 => (if t123 = true then ((armadalaw17_same.f k x9 ((rd_T27 x11 x12).f0) ((rd_T27 x11 x12).f1.f0) ((rd_T27 x11 x12).f1.f1) ((rd_T27 x11 x12).f1.f2) ((rd_T27 x11 x12).f1.f3) ((rd_T27 x11 x12).f1.f4)).bind fun t125 => (if t125 = true then (armadalaw17_MvsRoots.l0 k x9 x10 x11 (wrap64 (x12 + 1))) else ((armadalaw17_same.f k x10 ((rd_T27 x11 x12).f0) ((rd_T27 x11 x12).f1.f0) ((rd_T27 x11 x12).f1.f1) ((rd_T27 x11 x12).f1.f2) ((rd_T27 x11 x12).f1.f3) ((rd_T27 x11 x12).f1.f4)).bind fun t127 => (if t127 = true then (armadalaw17_MvsRoots.l0 k x9 x10 x11 (wrap64 (x12 + 1))) else (some false))))) else (some false))) else (none)) else (armadalaw17_MvsRoots.l1 k x9 x10 x11 0)
def armadalaw17_MvsRoots.l1 : Nat → List (S27) → List (S27) → List (S27) → Int → Option (Bool)
 | 0, _, _, _, _ => none
 | k + 1, x9, x10, x11, x13 => if x13 < (x9.length : Int) then (if 0 ≤ x13 then ((armadalaw17_covers.f k x11 ((rd_T27 x9 x13).f0) ((rd_T27 x9 x13).f1.f0) ((rd_T27 x9 x13).f1.f1) ((rd_T27 x9 x13).f1.f2) ((rd_T27 x9 x13).f1.f3) ((rd_T27 x9 x13).f1.f4)).bind fun t129 => (if t129 = true then (armadalaw17_MvsRoots.l1 k x9 x10 x11 (wrap64 (x13 + 1))) else (some false))) else (none)) else (armadalaw17_MvsRoots.l2 k x10 x11 0)
def armadalaw17_MvsRoots.l2 : Nat → List (S27) → List (S27) → Int → Option (Bool)
 | 0, _, _, _ => none
 | k + 1, x10, x11, x14 => if x14 < (x10.length : Int) then (if 0 ≤ x14 then ((armadalaw17_covers.f k x11 ((rd_T27 x10 x14).f0) ((rd_T27 x10 x14).f1.f0) ((rd_T27 x10 x14).f1.f1) ((rd_T27 x10 x14).f1.f2) ((rd_T27 x10 x14).f1.f3) ((rd_T27 x10 x14).f1.f4)).bind fun t131 => (if t131 = true then (armadalaw17_MvsRoots.l2 k x10 x11 (wrap64 (x14 + 1))) else (some false))) else (none)) else ((armadalaw17_live.f).bind fun t132 => (some t132))
end
def armadalaw17_MvsRoots.f (k : Nat) (l0 : List (S27)) (l1 : List (S27)) (l2 : List (S46)) : Option (Bool) := (armadaref17_Small.f k l0 l2).bind fun t101 => (if t101 = true then ((armadaref17_Small.f k l1 ([] : List (S46))).bind fun t102 => (if t102 = true then (if (l0.length : Int) > 6 then (armadalaw17_MvsRoots.j0 k l0 l1 l2 true) else (armadalaw17_MvsRoots.j0 k l0 l1 l2 (decide ((l1.length : Int) > 6)))) else (armadalaw17_MvsRoots.j0 k l0 l1 l2 true))) else (armadalaw17_MvsRoots.j0 k l0 l1 l2 true))
theorem armadalaw17_MvsRoots.mono_l : ∀ k, (∀ y0 y1 y2 y3, LeO (armadalaw17_MvsRoots.j0 k y0 y1 y2 y3) (armadalaw17_MvsRoots.j0 (k + 1) y0 y1 y2 y3)) ∧ (∀ y0 y1 y2 y3, LeO (armadalaw17_MvsRoots.l0 k y0 y1 y2 y3) (armadalaw17_MvsRoots.l0 (k + 1) y0 y1 y2 y3)) ∧ (∀ y0 y1 y2 y3, LeO (armadalaw17_MvsRoots.l1 k y0 y1 y2 y3) (armadalaw17_MvsRoots.l1 (k + 1) y0 y1 y2 y3)) ∧ (∀ y0 y1 y2, LeO (armadalaw17_MvsRoots.l2 k y0 y1 y2) (armadalaw17_MvsRoots.l2 (k + 1) y0 y1 y2))
 | 0 => ⟨fun _ _ _ _ r h => by simp [armadalaw17_MvsRoots.j0] at h, fun _ _ _ _ r h => by simp [armadalaw17_MvsRoots.l0] at h, fun _ _ _ _ r h => by simp [armadalaw17_MvsRoots.l1] at h, fun _ _ _ r h => by simp [armadalaw17_MvsRoots.l2] at h⟩
 | k + 1 => by
  obtain ⟨ih0, ih1, ih2, ih3⟩ := armadalaw17_MvsRoots.mono_l k
  refine ⟨?_, ?_, ?_, ?_⟩
  ·
   intro y0 y1 y2 y3
   unfold armadalaw17_MvsRoots.j0
   repeat' first
   | (with_reducible exact ih0 _ _ _ _)
   | (with_reducible exact ih1 _ _ _ _)
   | (with_reducible exact ih2 _ _ _ _)
   | (with_reducible exact ih3 _ _ _)
   | (with_reducible exact armadalaw17_covers.mono _ _ _ _ _ _ _ _)
   | (with_reducible exact armadalaw17_own.mono _ _)
   | (with_reducible exact armadalaw17_same.mono _ _ _ _ _ _ _ _)
   | (with_reducible exact armadaref17_Small.mono _ _ _)
   | (with_reducible exact LeO.refl _)
   | (with_reducible exact LeO.none _)
   | (with_reducible refine LeO.ite ?_ ?_)
   | (with_reducible refine LeO.bind ?_ (fun _ => ?_))
   | exact ih0 _ _ _ _
   | exact ih1 _ _ _ _
   | exact ih2 _ _ _ _
   | exact ih3 _ _ _
   | exact armadalaw17_covers.mono _ _ _ _ _ _ _ _
   | exact armadalaw17_own.mono _ _
   | exact armadalaw17_same.mono _ _ _ _ _ _ _ _
   | exact armadaref17_Small.mono _ _ _
   | exact LeO.none _
   | refine LeO.ite ?_ ?_
   | refine LeO.bind ?_ (fun _ => ?_)
  ·
   intro y0 y1 y2 y3
   unfold armadalaw17_MvsRoots.l0
   repeat' first
   | (with_reducible exact ih0 _ _ _ _)
   | (with_reducible exact ih1 _ _ _ _)
   | (with_reducible exact ih2 _ _ _ _)
   | (with_reducible exact ih3 _ _ _)
   | (with_reducible exact armadalaw17_covers.mono _ _ _ _ _ _ _ _)
   | (with_reducible exact armadalaw17_own.mono _ _)
   | (with_reducible exact armadalaw17_same.mono _ _ _ _ _ _ _ _)
   | (with_reducible exact armadaref17_Small.mono _ _ _)
   | (with_reducible exact LeO.refl _)
   | (with_reducible exact LeO.none _)
   | (with_reducible refine LeO.ite ?_ ?_)
   | (with_reducible refine LeO.bind ?_ (fun _ => ?_))
   | exact ih0 _ _ _ _
   | exact ih1 _ _ _ _
   | exact ih2 _ _ _ _
   | exact ih3 _ _ _
   | exact armadalaw17_covers.mono _ _ _ _ _ _ _ _
   | exact armadalaw17_own.mono _ _
   | exact armadalaw17_same.mono _ _ _ _ _ _ _ _
   | exact armadaref17_Small.mono _ _ _
   | exact LeO.none _
   | refine LeO.ite ?_ ?_
   | refine LeO.bind ?_ (fun _ => ?_)
  ·
   intro y0 y1 y2 y3
   unfold armadalaw17_MvsRoots.l1
   repeat' first
   | (with_reducible exact ih0 _ _ _ _)
   | (with_reducible exact ih1 _ _ _ _)
   | (with_reducible exact ih2 _ _ _ _)
   | (with_reducible exact ih3 _ _ _)
   | (with_reducible exact armadalaw17_covers.mono _ _ _ _ _ _ _ _)
   | (with_reducible exact armadalaw17_own.mono _ _)
   | (with_reducible exact armadalaw17_same.mono _ _ _ _ _ _ _ _)
   | (with_reducible exact armadaref17_Small.mono _ _ _)
   | (with_reducible exact LeO.refl _)
   | (with_reducible exact LeO.none _)
   | (with_reducible refine LeO.ite ?_ ?_)
   | (with_reducible refine LeO.bind ?_ (fun _ => ?_))
   | exact ih0 _ _ _ _
   | exact ih1 _ _ _ _
   | exact ih2 _ _ _ _
   | exact ih3 _ _ _
   | exact armadalaw17_covers.mono _ _ _ _ _ _ _ _
   | exact armadalaw17_own.mono _ _
   | exact armadalaw17_same.mono _ _ _ _ _ _ _ _
   | exact armadaref17_Small.mono _ _ _
   | exact LeO.none _
   | refine LeO.ite ?_ ?_
   | refine LeO.bind ?_ (fun _ => ?_)
  ·
   intro y0 y1 y2
   unfold armadalaw17_MvsRoots.l2
   repeat' first
   | (with_reducible exact ih0 _ _ _ _)
   | (with_reducible exact ih1 _ _ _ _)
   | (with_reducible exact ih2 _ _ _ _)
   | (with_reducible exact ih3 _ _ _)
   | (with_reducible exact armadalaw17_covers.mono _ _ _ _ _ _ _ _)
   | (with_reducible exact armadalaw17_own.mono _ _)
   | (with_reducible exact armadalaw17_same.mono _ _ _ _ _ _ _ _)
   | (with_reducible exact armadaref17_Small.mono _ _ _)
   | (with_reducible exact LeO.refl _)
   | (with_reducible exact LeO.none _)
   | (with_reducible refine LeO.ite ?_ ?_)
   | (with_reducible refine LeO.bind ?_ (fun _ => ?_))
   | exact ih0 _ _ _ _
   | exact ih1 _ _ _ _
   | exact ih2 _ _ _ _
   | exact ih3 _ _ _
   | exact armadalaw17_covers.mono _ _ _ _ _ _ _ _
   | exact armadalaw17_own.mono _ _
   | exact armadalaw17_same.mono _ _ _ _ _ _ _ _
   | exact armadaref17_Small.mono _ _ _
   | exact LeO.none _
   | refine LeO.ite ?_ ?_
   | refine LeO.bind ?_ (fun _ => ?_)
theorem armadalaw17_MvsRoots.mono : ∀ a0 a1 a2 k, LeO (armadalaw17_MvsRoots.f k a0 a1 a2) (armadalaw17_MvsRoots.f (k + 1) a0 a1 a2) := by
 intro a0 a1 a2 k
 obtain ⟨ih0, ih1, ih2, ih3⟩ := armadalaw17_MvsRoots.mono_l k
 unfold armadalaw17_MvsRoots.f
 repeat' first
   | (with_reducible exact ih0 _ _ _ _)
   | (with_reducible exact ih1 _ _ _ _)
   | (with_reducible exact ih2 _ _ _ _)
   | (with_reducible exact ih3 _ _ _)
   | (with_reducible exact armadalaw17_covers.mono _ _ _ _ _ _ _ _)
   | (with_reducible exact armadalaw17_own.mono _ _)
   | (with_reducible exact armadalaw17_same.mono _ _ _ _ _ _ _ _)
   | (with_reducible exact armadaref17_Small.mono _ _ _)
   | (with_reducible exact LeO.refl _)
   | (with_reducible exact LeO.none _)
   | (with_reducible refine LeO.ite ?_ ?_)
   | (with_reducible refine LeO.bind ?_ (fun _ => ?_))
   | exact ih0 _ _ _ _
   | exact ih1 _ _ _ _
   | exact ih2 _ _ _ _
   | exact ih3 _ _ _
   | exact armadalaw17_covers.mono _ _ _ _ _ _ _ _
   | exact armadalaw17_own.mono _ _
   | exact armadalaw17_same.mono _ _ _ _ _ _ _ _
   | exact armadaref17_Small.mono _ _ _
   | exact LeO.none _
   | refine LeO.ite ?_ ?_
   | refine LeO.bind ?_ (fun _ => ?_)
set_option maxHeartbeats 8000000 in
set_option maxRecDepth 100000 in
theorem armadalaw17_MvsRoots.calls (k : Nat) (A0 : Option Addr) (c0 : Nat) (l0 : List (S27)) (A1 : Option Addr) (c1 : Nat) (l1 : List (S27)) (A2 : Option Addr) (c2 : Nat) (l2 : List (S46)) (r : Bool) (w : World) (hr0 : Kd.C k27 w A0 l0.length l0) (hc0 : l0.length ≤ c0) (hr1 : Kd.C k27 w A1 l1.length l1) (hc1 : l1.length ≤ c1) (hr2 : Kd.C k46 w A2 l2.length l2) (hc2 : l2.length ≤ c2) (hG : GW w) (hT : r = true) (h : armadalaw17_MvsRoots.f k l0 l1 l2 = some r) :
  Calls Tryz.prog 7 #[.slice A0 l0.length c0, .slice A1 l1.length c1, .slice A2 l2.length c2] w fun e w' => e = .returned (.bool r) ∧ Below w.heap.size w w' := by
 have hu27 := Tryz.underlying27
 have HR0 := Aside0.mk hr0
 have HC0 := Aside0.mk hc0
 clear hr0 hc0
 have HR1 := Aside0.mk hr1
 have HC1 := Aside0.mk hc1
 clear hr1 hc1
 have HR2 := Aside0.mk hr2
 have HC2 := Aside0.mk hc2
 clear hr2 hc2
 have HGW := Aside0.mk hG
 clear hG
 have HTRU_ := Aside0.mk hT
 clear hT
 have HB := Aside0.mk (Below.refl w.heap.size w)
 have H : ((armadaref17_Small.f k l0 l2).bind fun t101 => (if t101 = true then ((armadaref17_Small.f k l1 ([] : List (S46))).bind fun t102 => (if t102 = true then (if (l0.length : Int) > 6 then (armadalaw17_MvsRoots.j0 k l0 l1 l2 true) else (armadalaw17_MvsRoots.j0 k l0 l1 l2 (decide ((l1.length : Int) > 6)))) else (armadalaw17_MvsRoots.j0 k l0 l1 l2 true))) else (armadalaw17_MvsRoots.j0 k l0 l1 l2 true))) = some r := h
 clear h
 have HC4 := Aside0.mk H
 clear H
 go_enter Tryz.func7, Tryz.ntmps7
 go_upto_region 1 with (fail)
 go_cut [33] (fun v33 wc => ∃ (kq : Nat) (x33_3 : Bool), v33 = .bool x33_3 ∧ Aside0 (armadalaw17_MvsRoots.j0 kq l0 l1 l2 x33_3 = some r) ∧ Aside0 (kq ≤ k) ∧ Aside0 (Below w.heap.size w wc))
 case first =>
  have H := HC4.out
  clear HC4
  replace H := xb H
  obtain ⟨t101, A5, H⟩ := H
  by_cases c6 : t101 = true
  ·
   subst c6
   rw [if_pos rfl] at H
   replace H := xb H
   obtain ⟨t102, A7, H⟩ := H
   by_cases c8 : t102 = true
   ·
    subst c8
    rw [if_pos rfl] at H
    by_cases c9 : (l0.length : Int) > 6
    ·
     rw [if_pos c9] at H
     have c9b0 := decide_eq_true c9
     have c9b1 : decide (6 < l0.length) = true := decide_eq_true (by omega)
     clear c9
     (first | rw [c9b0] | (simp only [i64_w, i32_w]; rw [c9b0]) | skip)
     have H' := Aside0.mk H
     clear H
     go_wp2_with (first | ((with_reducible refine gate_callee (f := 11) rfl ?_); refine goesL_ (some 17) rfl rfl Tryz.func11 (by kernel_rfl) rfl #[.slice A0 l0.length c0, .slice A2 l2.length c2] rfl xS ?_; (with_reducible refine (armadaref17_Small.calls k _ _ l0 _ _ l2 true _ ?side1 ?side2 ?side3 ?side4 A5.out).mono ?_); (case side1 => repeat (first | exact (Kd.C_below HR0.out HB.out) | (with_reducible refine Kd.C_alloc ?_ _) | (with_reducible refine Kd.C_drewN ?_ _) | (with_reducible refine Kd.C_drew ?_))); (case side2 => exact HC0.out); (case side3 => repeat (first | exact (Kd.C_below HR2.out HB.out) | (with_reducible refine Kd.C_alloc ?_ _) | (with_reducible refine Kd.C_drewN ?_ _) | (with_reducible refine Kd.C_drew ?_))); (case side4 => exact HC2.out); rintro e w10 ⟨rfl, hb⟩; refine ⟨_, rfl, ?_⟩; replace HB := Aside0.mk (below_step xB hb); (try clear hb); (try clear hb2); (try clear hk); (try clear hi)) | (go_at_call 11; (refine (armadaref17_Small.calls k _ _ l1 _ _ ([] : List (S46)) true _ ?side1 ?side2 ?side3 ?side4 A7.out).mono ?_); (case side1 => repeat (first | exact (Kd.C_below HR1.out HB.out) | (with_reducible refine Kd.C_alloc ?_ _) | (with_reducible refine Kd.C_drewN ?_ _) | (with_reducible refine Kd.C_drew ?_))); (case side2 => exact HC1.out); (case side3 => exact Kd.C_nil _ _); (case side4 => exact Nat.le_refl _); rintro e w11 ⟨rfl, hb⟩; replace HB := Aside0.mk (below_step xB hb); (try clear hb); (try clear hb2); (try clear hk); (try clear hi)))
     go_meet
     case rel => exact ⟨_, (true), xR, H', ⟨by first | omega | exact Nat.le_refl _⟩, ⟨xB⟩⟩
    rw [if_neg c9] at H
    have c9b0 := decide_eq_false c9
    have c9b1 : decide (6 < l0.length) = false := decide_eq_false (by omega)
    clear c9
    (first | rw [c9b0] | (simp only [i64_w, i32_w]; rw [c9b0]) | skip)
    have H' := Aside0.mk H
    clear H
    go_wp2_with (first | ((with_reducible refine gate_callee (f := 11) rfl ?_); refine goesL_ (some 17) rfl rfl Tryz.func11 (by kernel_rfl) rfl #[.slice A0 l0.length c0, .slice A2 l2.length c2] rfl xS ?_; (with_reducible refine (armadaref17_Small.calls k _ _ l0 _ _ l2 true _ ?side1 ?side2 ?side3 ?side4 A5.out).mono ?_); (case side1 => repeat (first | exact (Kd.C_below HR0.out HB.out) | (with_reducible refine Kd.C_alloc ?_ _) | (with_reducible refine Kd.C_drewN ?_ _) | (with_reducible refine Kd.C_drew ?_))); (case side2 => exact HC0.out); (case side3 => repeat (first | exact (Kd.C_below HR2.out HB.out) | (with_reducible refine Kd.C_alloc ?_ _) | (with_reducible refine Kd.C_drewN ?_ _) | (with_reducible refine Kd.C_drew ?_))); (case side4 => exact HC2.out); rintro e w12 ⟨rfl, hb⟩; refine ⟨_, rfl, ?_⟩; replace HB := Aside0.mk (below_step xB hb); (try clear hb); (try clear hb2); (try clear hk); (try clear hi)) | (go_at_call 11; (refine (armadaref17_Small.calls k _ _ l1 _ _ ([] : List (S46)) true _ ?side1 ?side2 ?side3 ?side4 A7.out).mono ?_); (case side1 => repeat (first | exact (Kd.C_below HR1.out HB.out) | (with_reducible refine Kd.C_alloc ?_ _) | (with_reducible refine Kd.C_drewN ?_ _) | (with_reducible refine Kd.C_drew ?_))); (case side2 => exact HC1.out); (case side3 => exact Kd.C_nil _ _); (case side4 => exact Nat.le_refl _); rintro e w13 ⟨rfl, hb⟩; replace HB := Aside0.mk (below_step xB hb); (try clear hb); (try clear hb2); (try clear hk); (try clear hi)))
    go_meet
    case rel => exact ⟨_, (decide ((l1.length : Int) > 6)), xR, H', ⟨by first | omega | exact Nat.le_refl _⟩, ⟨xB⟩⟩
   replace c8 := Bool.eq_false_iff.mpr c8
   subst c8
   rw [if_neg (show ¬ (false = true) by decide)] at H
   have H' := Aside0.mk H
   clear H
   go_wp2_with (first | ((with_reducible refine gate_callee (f := 11) rfl ?_); refine goesL_ (some 17) rfl rfl Tryz.func11 (by kernel_rfl) rfl #[.slice A0 l0.length c0, .slice A2 l2.length c2] rfl xS ?_; (with_reducible refine (armadaref17_Small.calls k _ _ l0 _ _ l2 true _ ?side1 ?side2 ?side3 ?side4 A5.out).mono ?_); (case side1 => repeat (first | exact (Kd.C_below HR0.out HB.out) | (with_reducible refine Kd.C_alloc ?_ _) | (with_reducible refine Kd.C_drewN ?_ _) | (with_reducible refine Kd.C_drew ?_))); (case side2 => exact HC0.out); (case side3 => repeat (first | exact (Kd.C_below HR2.out HB.out) | (with_reducible refine Kd.C_alloc ?_ _) | (with_reducible refine Kd.C_drewN ?_ _) | (with_reducible refine Kd.C_drew ?_))); (case side4 => exact HC2.out); rintro e w14 ⟨rfl, hb⟩; refine ⟨_, rfl, ?_⟩; replace HB := Aside0.mk (below_step xB hb); (try clear hb); (try clear hb2); (try clear hk); (try clear hi)) | (go_at_call 11; (refine (armadaref17_Small.calls k _ _ l1 _ _ ([] : List (S46)) false _ ?side1 ?side2 ?side3 ?side4 A7.out).mono ?_); (case side1 => repeat (first | exact (Kd.C_below HR1.out HB.out) | (with_reducible refine Kd.C_alloc ?_ _) | (with_reducible refine Kd.C_drewN ?_ _) | (with_reducible refine Kd.C_drew ?_))); (case side2 => exact HC1.out); (case side3 => exact Kd.C_nil _ _); (case side4 => exact Nat.le_refl _); rintro e w15 ⟨rfl, hb⟩; replace HB := Aside0.mk (below_step xB hb); (try clear hb); (try clear hb2); (try clear hk); (try clear hi)))
   go_meet
   case rel => exact ⟨_, (true), xR, H', ⟨by first | omega | exact Nat.le_refl _⟩, ⟨xB⟩⟩
  replace c6 := Bool.eq_false_iff.mpr c6
  subst c6
  rw [if_neg (show ¬ (false = true) by decide)] at H
  have H' := Aside0.mk H
  clear H
  go_wp2_with (first | ((with_reducible refine gate_callee (f := 11) rfl ?_); refine goesL_ (some 17) rfl rfl Tryz.func11 (by kernel_rfl) rfl #[.slice A0 l0.length c0, .slice A2 l2.length c2] rfl xS ?_; (with_reducible refine (armadaref17_Small.calls k _ _ l0 _ _ l2 false _ ?side1 ?side2 ?side3 ?side4 A5.out).mono ?_); (case side1 => repeat (first | exact (Kd.C_below HR0.out HB.out) | (with_reducible refine Kd.C_alloc ?_ _) | (with_reducible refine Kd.C_drewN ?_ _) | (with_reducible refine Kd.C_drew ?_))); (case side2 => exact HC0.out); (case side3 => repeat (first | exact (Kd.C_below HR2.out HB.out) | (with_reducible refine Kd.C_alloc ?_ _) | (with_reducible refine Kd.C_drewN ?_ _) | (with_reducible refine Kd.C_drew ?_))); (case side4 => exact HC2.out); rintro e w16 ⟨rfl, hb⟩; refine ⟨_, rfl, ?_⟩; replace HB := Aside0.mk (below_step xB hb); (try clear hb); (try clear hb2); (try clear hk); (try clear hi)))
  go_meet
  case rel => exact ⟨_, (true), xR, H', ⟨by first | omega | exact Nat.le_refl _⟩, ⟨xB⟩⟩
 case rest =>
  clear HC4
  try clear c1
  try clear c2
  try clear p2
  try clear c6
  try clear c7
  try clear c8
  try clear c9
  try clear c9b0
  try clear c9b1
  try clear c11
  obtain ⟨kq, x33_3, rfl, HA, HJ3, HB⟩ := hcut
  cases kq with
  | zero => exact absurd HA.out (by simp [armadalaw17_MvsRoots.j0])
  | succ kj3 =>
   have H := HA.out
   clear HA
   simp only [armadalaw17_MvsRoots.j0] at H
   by_cases c17 : x33_3 = true
   ·
    subst c17
    rw [if_pos rfl] at H
    replace H := xb H
    obtain ⟨t103, A18, H⟩ := H
    obtain rfl := Option.some.inj H
    go_wp2_with (first | ((with_reducible refine gate_callee (f := 12) rfl ?_); refine goesL_ (some 34) rfl rfl Tryz.func12 (by kernel_rfl) rfl #[] rfl xS ?_; (with_reducible refine (armadalaw17_live.calls  t103 _ ?side1 ?side2 A18.out).mono ?_); (case side1 => exact GW.below HGW.out xB); (case side2 => exact HTRU_.out); rintro e w19 ⟨rfl, hb⟩; refine ⟨_, rfl, ?_⟩; replace HB := Aside0.mk (below_step xB hb); (try clear hb); (try clear hb2); (try clear hk); (try clear hi)))
    go_ret
    exact ⟨by first | rfl | (simp [errW_none, errW_some] <;> rfl) | (simp [*, errW_none, errW_some] <;> rfl) | (simp [isEmpty_bne]; done), xB⟩
   replace c17 := Bool.eq_false_iff.mpr c17
   subst c17
   rw [if_neg (show ¬ (false = true) by decide)] at H
   replace H := xb H
   obtain ⟨t104, A20, H⟩ := H
   replace H := xI H
   obtain ⟨c21, H⟩ := H
   have LMc21 := Aside0.mk c21
   clear c21
   obtain ⟨y107, hy107⟩ : ∃ y_ : List (S27), y_ = (([] : List (S27)) ++ l0) := ⟨_, rfl⟩
   replace H : (if y107.length + l1.length < 1954687338268 then ((mvs_List.f l0 t104).bind fun t113 => ((mvs_List.f l1 t104).bind fun t116 => ((mvs_List.f (y107 ++ l1) t104).bind fun t119 => (armadalaw17_MvsRoots.l0 kj3 t113 t116 t119 0)))) else (none)) = some r := by first | (rw [hy107]; with_reducible exact H) | (have H2_ := (Option.bind_some _ _).symm.trans H; rw [hy107]; with_reducible exact H2_) | (have H2_ := (Option.bind_some _ _).symm.trans H; with_reducible exact H2_) | with_reducible exact H | (rw [hy107]; exact H) | exact H
   have Ny107 := Aside0.mk hy107
   clear hy107
   replace H := xI H
   obtain ⟨c22, H⟩ := H
   have LMc22 := Aside0.mk c22
   clear c22
   obtain ⟨y110, hy110⟩ : ∃ y_ : List (S27), y_ = (y107 ++ l1) := ⟨_, rfl⟩
   replace H : ((mvs_List.f l0 t104).bind fun t113 => ((mvs_List.f l1 t104).bind fun t116 => ((mvs_List.f y110 t104).bind fun t119 => (armadalaw17_MvsRoots.l0 kj3 t113 t116 t119 0)))) = some r := by first | (rw [hy110]; with_reducible exact H) | (have H2_ := (Option.bind_some _ _).symm.trans H; rw [hy110]; with_reducible exact H2_) | (have H2_ := (Option.bind_some _ _).symm.trans H; with_reducible exact H2_) | with_reducible exact H | (rw [hy110]; exact H) | exact H
   have Ny110 := Aside0.mk hy110
   clear hy110
   replace H := xb H
   obtain ⟨t113, A23, H⟩ := H
   replace H := xb H
   obtain ⟨t116, A24, H⟩ := H
   replace H := xb H
   obtain ⟨t119, A25, H⟩ := H
   have H' := Aside0.mk H
   clear H
   go_wp2_with (first | ((with_reducible refine gate_callee (f := 13) rfl ?_); refine goesL_ (some 36) rfl rfl Tryz.func13 (by kernel_rfl) rfl #[.slice A2 l2.length c2] rfl xS ?_; (with_reducible refine (armadalaw17_own.calls kj3 (fun k_ => k_ < w.heap.size) _ _ l2 t104 _ ?side1 A20.out).mono ?_); (case side1 => exact Kd.V_mk HC2.out (Kd.F_below (Kd.C_F k46_heap HR2.out) xB)); rintro e w26 ⟨v105, rfl, ho0, hb⟩; refine ⟨_, rfl, ?_⟩; have HO106 := Aside0.mk (Kd.N_lower (Kd.N_mono (ok' := fun k_ => True) ho0 (fun k_ hk_ => trivial)) (below_size xB)); replace HB := Aside0.mk (below_step xB hb); (try clear hb); (try clear hb2); (try clear hk); (try clear hi); (try clear ho0)) | ((with_reducible refine gate_builtin (b := .append) (xs := #[.tmp 37, .tmp 38]) rfl ?_); (try (refine gate_guard (by rfl) ?_; dsimp only)); at_builtin; refine Kd.R_append_rows k27 (w0 := w) w.heap.size rfl (.tmp 37) (.tmp 38) 22 27 (.agg #[(.string ⟨#[]⟩), (.int .i64 0), (.int .i64 0), (.int .i64 0), (.string ⟨#[]⟩), (.string ⟨#[]⟩)]) 72 rfl Tryz.underlying22 info27 rfl (by decide) (by omega) (.slice none 0 0) ([] : List (S27)) l0 _ _ _ (fun _ => True) (fun _ => False) rfl rfl ?aO ?aR (fun _ _ h => h) (fun _ h => h.elim) ?aF ?aB ?aS ?aL ?_; (case aR => repeat (first | exact (Kd.C_below HR0.out HB.out) | (with_reducible refine Kd.C_alloc ?_ _) | (with_reducible refine Kd.C_drewN ?_ _) | (with_reducible refine Kd.C_drew ?_))); (case aB => exact xB); (case aF => exact (fun _ _ => trivial)); (case aO => exact ((Kd.R_nil _ _ _ _ (fun _ => True)))); (case aS => exact (below_size xB)); (case aL => have := LMc21.out; omega); intro v108 w27 ho hb hg hat; rw [← Ny107.out] at ho; replace HO106 := Aside0.mk (Kd.N_afterv (Kd.N_apart_nil (by (with_reducible repeat (first | apply Kd.N_alloc | apply Kd.N_drewN | apply Kd.N_drew)); exact HO106.out)) hg hat); have HO109 := Aside0.mk (ho); replace HB := Aside0.mk (hb); clear ho hb hg hat) | ((with_reducible refine gate_builtin (b := .append) (xs := #[.tmp 40, .tmp 41]) rfl ?_); (try (refine gate_guard (by rfl) ?_; dsimp only)); at_builtin; refine Kd.R_append_rows k27 (w0 := w) w.heap.size rfl (.tmp 40) (.tmp 41) 22 27 (.agg #[(.string ⟨#[]⟩), (.int .i64 0), (.int .i64 0), (.int .i64 0), (.string ⟨#[]⟩), (.string ⟨#[]⟩)]) 72 rfl Tryz.underlying22 info27 rfl (by decide) (by omega) v108 y107 l1 _ _ _ (fun _ => True) (fun _ => False) rfl rfl ?aO ?aR (fun _ _ h => h) (fun _ h => h.elim) ?aF ?aB ?aS ?aL ?_; (case aR => repeat (first | exact (Kd.C_below HR1.out HB.out) | (with_reducible refine Kd.C_alloc ?_ _) | (with_reducible refine Kd.C_drewN ?_ _) | (with_reducible refine Kd.C_drew ?_))); (case aB => exact xB); (case aF => exact (fun _ _ => trivial)); (case aO => exact (by (with_reducible repeat (first | apply Kd.R_alloc | apply Kd.R_drewN | apply Kd.R_drew)); exact HO109.out)); (case aS => exact (below_size xB)); (case aL => have := LMc22.out; omega); intro v111 w28 ho hb hg hat; rw [← Ny110.out] at ho; replace HO106 := Aside0.mk (Kd.N_afterv (ok := (fun _ => True)) (by (with_reducible repeat (first | apply Kd.N_alloc | apply Kd.N_drewN | apply Kd.N_drew)); exact HO106.out) hg hat); have HO112 := Aside0.mk (ho); replace HB := Aside0.mk (hb); clear HO109; clear ho hb hg hat; obtain ⟨Ao29, co29, eo29⟩ := Kd.N_slice HO106.out; subst eo29) | ((with_reducible refine gate_callee (f := 17) rfl ?_); refine goesL_ (some 45) rfl rfl Tryz.func17 (by kernel_rfl) rfl #[.slice A0 l0.length c0, .slice Ao29 t104.length co29] rfl xS ?_; (with_reducible refine (mvs_List.calls _ _ l0 _ _ t104 t113 _ ?side1 ?side2 ?side3 ?side4 ?side5 A23.out).mono ?_); (case side1 => repeat (first | exact (Kd.C_below HR0.out HB.out) | (with_reducible refine Kd.C_alloc ?_ _) | (with_reducible refine Kd.C_drewN ?_ _) | (with_reducible refine Kd.C_drew ?_))); (case side2 => exact HC0.out); (case side3 => repeat (first | exact (Kd.N_reads' HO106.out).2.2 | (with_reducible refine Kd.C_alloc ?_ _) | (with_reducible refine Kd.C_drewN ?_ _) | (with_reducible refine Kd.C_drew ?_))); (case side4 => exact (Kd.N_reads' HO106.out).2.1); (case side5 => exact GW.below HGW.out xB); rintro e w30 ⟨v114, rfl, ho0, hb⟩; refine ⟨_, rfl, ?_⟩; replace HO106 := Aside0.mk (Kd.N_elder' (by (with_reducible repeat (first | apply Kd.N_alloc | apply Kd.N_drewN | apply Kd.N_drew)); exact HO106.out) (Kd.R_base ho0) hb); have HO115 := Aside0.mk (Kd.R_lower (Kd.R_new' ho0 (Kd.R_lt (by (with_reducible repeat (first | apply Kd.R_alloc | apply Kd.R_drewN | apply Kd.R_drew)); exact HO112.out))) (below_size xB)); replace HO112 := Aside0.mk (Kd.R_elder' (by (with_reducible repeat (first | apply Kd.R_alloc | apply Kd.R_drewN | apply Kd.R_drew)); exact HO112.out) (Kd.R_base ho0) hb); replace HB := Aside0.mk (below_step xB hb); (try clear hb); (try clear hb2); (try clear hk); (try clear hi); (try clear ho0)) | ((with_reducible refine gate_callee (f := 17) rfl ?_); refine goesL_ (some 48) rfl rfl Tryz.func17 (by kernel_rfl) rfl #[.slice A1 l1.length c1, .slice Ao29 t104.length co29] rfl xS ?_; (with_reducible refine (mvs_List.calls _ _ l1 _ _ t104 t116 _ ?side1 ?side2 ?side3 ?side4 ?side5 A24.out).mono ?_); (case side1 => repeat (first | exact (Kd.C_below HR1.out HB.out) | (with_reducible refine Kd.C_alloc ?_ _) | (with_reducible refine Kd.C_drewN ?_ _) | (with_reducible refine Kd.C_drew ?_))); (case side2 => exact HC1.out); (case side3 => repeat (first | exact (Kd.N_reads' HO106.out).2.2 | (with_reducible refine Kd.C_alloc ?_ _) | (with_reducible refine Kd.C_drewN ?_ _) | (with_reducible refine Kd.C_drew ?_))); (case side4 => exact (Kd.N_reads' HO106.out).2.1); (case side5 => exact GW.below HGW.out xB); rintro e w31 ⟨v117, rfl, ho0, hb⟩; refine ⟨_, rfl, ?_⟩; replace HO106 := Aside0.mk (Kd.N_elder' (by (with_reducible repeat (first | apply Kd.N_alloc | apply Kd.N_drewN | apply Kd.N_drew)); exact HO106.out) (Kd.R_base ho0) hb); have HO118 := Aside0.mk (Kd.R_lower (Kd.R_new' (Kd.R_new' ho0 (Kd.R_lt (by (with_reducible repeat (first | apply Kd.R_alloc | apply Kd.R_drewN | apply Kd.R_drew)); exact HO112.out))) (Kd.R_lt (by (with_reducible repeat (first | apply Kd.R_alloc | apply Kd.R_drewN | apply Kd.R_drew)); exact HO115.out))) (below_size xB)); replace HO112 := Aside0.mk (Kd.R_elder' (by (with_reducible repeat (first | apply Kd.R_alloc | apply Kd.R_drewN | apply Kd.R_drew)); exact HO112.out) (Kd.R_base ho0) hb); replace HO115 := Aside0.mk (Kd.R_elder' (by (with_reducible repeat (first | apply Kd.R_alloc | apply Kd.R_drewN | apply Kd.R_drew)); exact HO115.out) (Kd.R_base ho0) hb); replace HB := Aside0.mk (below_step xB hb); (try clear hb); (try clear hb2); (try clear hk); (try clear hi); (try clear ho0); obtain ⟨Ao32, co32, eo32⟩ := Kd.R_slice HO112.out; subst eo32) | ((with_reducible refine gate_callee (f := 17) rfl ?_); refine goesL_ (some 51) rfl rfl Tryz.func17 (by kernel_rfl) rfl #[.slice Ao32 y110.length co32, .slice Ao29 t104.length co29] rfl xS ?_; (with_reducible refine (mvs_List.calls _ _ y110 _ _ t104 t119 _ ?side1 ?side2 ?side3 ?side4 ?side5 A25.out).mono ?_); (case side1 => repeat (first | exact (Kd.R_reads' HO112.out).2.2 | (with_reducible refine Kd.C_alloc ?_ _) | (with_reducible refine Kd.C_drewN ?_ _) | (with_reducible refine Kd.C_drew ?_))); (case side2 => exact (Kd.R_reads' HO112.out).2.1); (case side3 => repeat (first | exact (Kd.N_reads' HO106.out).2.2 | (with_reducible refine Kd.C_alloc ?_ _) | (with_reducible refine Kd.C_drewN ?_ _) | (with_reducible refine Kd.C_drew ?_))); (case side4 => exact (Kd.N_reads' HO106.out).2.1); (case side5 => exact GW.below HGW.out xB); rintro e w33 ⟨v120, rfl, ho0, hb⟩; refine ⟨_, rfl, ?_⟩; replace HO106 := Aside0.mk (Kd.N_elder' (by (with_reducible repeat (first | apply Kd.N_alloc | apply Kd.N_drewN | apply Kd.N_drew)); exact HO106.out) (Kd.R_base ho0) hb); have HO121 := Aside0.mk (Kd.R_lower (Kd.R_new' (Kd.R_new' (Kd.R_new' ho0 (Kd.R_lt (by (with_reducible repeat (first | apply Kd.R_alloc | apply Kd.R_drewN | apply Kd.R_drew)); exact HO112.out))) (Kd.R_lt (by (with_reducible repeat (first | apply Kd.R_alloc | apply Kd.R_drewN | apply Kd.R_drew)); exact HO115.out))) (Kd.R_lt (by (with_reducible repeat (first | apply Kd.R_alloc | apply Kd.R_drewN | apply Kd.R_drew)); exact HO118.out))) (below_size xB)); replace HO112 := Aside0.mk (Kd.R_elder' (by (with_reducible repeat (first | apply Kd.R_alloc | apply Kd.R_drewN | apply Kd.R_drew)); exact HO112.out) (Kd.R_base ho0) hb); replace HO115 := Aside0.mk (Kd.R_elder' (by (with_reducible repeat (first | apply Kd.R_alloc | apply Kd.R_drewN | apply Kd.R_drew)); exact HO115.out) (Kd.R_base ho0) hb); replace HO118 := Aside0.mk (Kd.R_elder' (by (with_reducible repeat (first | apply Kd.R_alloc | apply Kd.R_drewN | apply Kd.R_drew)); exact HO118.out) (Kd.R_base ho0) hb); replace HB := Aside0.mk (below_step xB hb); (try clear hb); (try clear hb2); (try clear hk); (try clear hi); (try clear ho0)))
   go_loopg [12] kj3 (fun kq v12 w' => ∃ (x12_2 : Int), v12 = .int .i64 x12_2 ∧ Aside0 (armadalaw17_MvsRoots.l0 kq t113 t116 t119 x12_2 = some r) ∧ Aside0 (kq ≤ kj3) ∧ Aside0 (Kd.R k27 27 w' w.heap.size (fun k_ => some k_ ≠ (v117 : Value).ownBlock ∧ some k_ ≠ (v120 : Value).ownBlock) v114 t113) ∧ Aside0 (Kd.R k27 27 w' w.heap.size (fun k_ => some k_ ≠ (v114 : Value).ownBlock ∧ some k_ ≠ (v120 : Value).ownBlock) v117 t116) ∧ Aside0 (Kd.R k27 27 w' w.heap.size (fun k_ => some k_ ≠ (v114 : Value).ownBlock ∧ some k_ ≠ (v117 : Value).ownBlock) v120 t119) ∧ Aside0 (Below w.heap.size w w'))
   case atStart => exact ⟨(0), xR, H', ⟨Nat.le_refl _⟩, ⟨by (with_reducible repeat (first | apply Kd.R_alloc | apply Kd.R_drewN | apply Kd.R_drew)); exact Kd.R_mono HO115.out (fun _ hk => ⟨hk.1.2, hk.2⟩)⟩, ⟨by (with_reducible repeat (first | apply Kd.R_alloc | apply Kd.R_drewN | apply Kd.R_drew)); exact Kd.R_mono HO118.out (fun _ hk => ⟨hk.1.2, hk.2⟩)⟩, ⟨by (with_reducible repeat (first | apply Kd.R_alloc | apply Kd.R_drewN | apply Kd.R_drew)); exact Kd.R_mono HO121.out (fun _ hk => ⟨hk.1.2, hk.2⟩)⟩, ⟨xB⟩⟩
   case round =>
    clear H'
    try clear c1
    try clear c2
    try clear p2
    try clear c6
    try clear c7
    try clear c8
    try clear c9
    try clear c9b0
    try clear c9b1
    try clear c11
    try clear c12
    try clear c13
    try clear c17
    try clear c21
    try clear c22
    try clear p2
    obtain ⟨x12_2, rfl, HA, HK2, HO_9, HO_10, HO_11, HB⟩ := hrel
    cases gk with
    | zero => exact absurd HA.out (by simp [armadalaw17_MvsRoots.l0])
    | succ k2 =>
     have H := HA.out
     clear HA
     simp only [armadalaw17_MvsRoots.l0] at H
     by_cases c34 : x12_2 < (t119.length : Int)
     ·
      rw [if_pos c34] at H
      have c34b0 := decide_eq_true c34
      clear c34
      replace H := xI H
      obtain ⟨c35, H⟩ := H
      have c35b0 := decide_eq_true c35
      clear c35
      replace H := xb H
      obtain ⟨t123, A36, H⟩ := H
      by_cases c37 : t123 = true
      ·
       subst c37
       rw [if_pos rfl] at H
       replace H := xb H
       obtain ⟨t125, A38, H⟩ := H
       by_cases c39 : t125 = true
       ·
        subst c39
        rw [if_pos rfl] at H
        have H' := Aside0.mk H
        clear H
        obtain ⟨Ao40, co40, eo40⟩ := Kd.R_slice HO_11.out
        subst eo40
        have p122 : 0 ≤ (x12_2 : Int) := xD
        have q122 : x12_2 < (t119.length : Int) := xD
        obtain ⟨ad122, e122, hx122_0, hx122_1, hx122_2, hx122_3, hx122_4, hx122_5⟩ := at_T27 (Kd.R_reads' HO_11.out).2.2 x12_2 p122 q122
        cases e122
        replace p122 := eq_true p122
        replace q122 := eq_true q122
        go_wp2_with (first | ((with_reducible refine gate_callee (f := 24) rfl ?_); refine goesL_ (some 63) rfl rfl Tryz.func24 (by kernel_rfl) rfl #[.slice (some ad122) t119.length co40, .agg #[.string ((rd_T27 t119 x12_2).f0), .int .i64 ((rd_T27 t119 x12_2).f1.f0), .int .i64 ((rd_T27 t119 x12_2).f1.f1), .int .i64 ((rd_T27 t119 x12_2).f1.f2), .string ((rd_T27 t119 x12_2).f1.f3), .string ((rd_T27 t119 x12_2).f1.f4)]] rfl xS ?_; (with_reducible refine (armadalaw17_covers.calls k2 _ _ t119 ((rd_T27 t119 x12_2).f0) ((rd_T27 t119 x12_2).f1.f0) ((rd_T27 t119 x12_2).f1.f1) ((rd_T27 t119 x12_2).f1.f2) ((rd_T27 t119 x12_2).f1.f3) ((rd_T27 t119 x12_2).f1.f4) true _ ?side1 ?side2 A36.out).mono ?_); (case side1 => repeat (first | exact (Kd.R_reads' HO_11.out).2.2 | (with_reducible refine Kd.C_alloc ?_ _) | (with_reducible refine Kd.C_drewN ?_ _) | (with_reducible refine Kd.C_drew ?_))); (case side2 => exact (Kd.R_reads' HO_11.out).2.1); rintro e w41 ⟨rfl, hb⟩; refine ⟨_, rfl, ?_⟩; replace HO_9 := Aside0.mk (Kd.R_below (by (with_reducible repeat (first | apply Kd.R_alloc | apply Kd.R_drewN | apply Kd.R_drew)); exact HO_9.out) hb); replace HO_10 := Aside0.mk (Kd.R_below (by (with_reducible repeat (first | apply Kd.R_alloc | apply Kd.R_drewN | apply Kd.R_drew)); exact HO_10.out) hb); replace HO_11 := Aside0.mk (Kd.R_below (by (with_reducible repeat (first | apply Kd.R_alloc | apply Kd.R_drewN | apply Kd.R_drew)); exact HO_11.out) hb); replace HB := Aside0.mk (below_step xB hb); (try clear hb); (try clear hb2); (try clear hk); (try clear hi); have p124 : 0 ≤ (x12_2 : Int) := xD; have q124 : x12_2 < (t119.length : Int) := xD; obtain ⟨ad124, e124, hx124_0, hx124_1, hx124_2, hx124_3, hx124_4, hx124_5⟩ := at_T27 (Kd.R_reads' HO_11.out).2.2 x12_2 p124 q124; obtain rfl : ad122 = ad124 := (by injection e124); replace p124 := eq_true p124; replace q124 := eq_true q124; obtain ⟨Ao42, co42, eo42⟩ := Kd.R_slice HO_9.out; subst eo42) | (go_at_call 27; (with_reducible refine (armadalaw17_same.calls k2 _ _ t113 ((rd_T27 t119 x12_2).f0) ((rd_T27 t119 x12_2).f1.f0) ((rd_T27 t119 x12_2).f1.f1) ((rd_T27 t119 x12_2).f1.f2) ((rd_T27 t119 x12_2).f1.f3) ((rd_T27 t119 x12_2).f1.f4) true _ ?side1 ?side2 A38.out).mono ?_); (case side1 => repeat (first | exact (Kd.R_reads' HO_9.out).2.2 | (with_reducible refine Kd.C_alloc ?_ _) | (with_reducible refine Kd.C_drewN ?_ _) | (with_reducible refine Kd.C_drew ?_))); (case side2 => exact (Kd.R_reads' HO_9.out).2.1); rintro e w43 ⟨rfl, hb⟩; replace HO_9 := Aside0.mk (Kd.R_below (by (with_reducible repeat (first | apply Kd.R_alloc | apply Kd.R_drewN | apply Kd.R_drew)); exact HO_9.out) hb); replace HO_10 := Aside0.mk (Kd.R_below (by (with_reducible repeat (first | apply Kd.R_alloc | apply Kd.R_drewN | apply Kd.R_drew)); exact HO_10.out) hb); replace HO_11 := Aside0.mk (Kd.R_below (by (with_reducible repeat (first | apply Kd.R_alloc | apply Kd.R_drewN | apply Kd.R_drew)); exact HO_11.out) hb); replace HB := Aside0.mk (below_step xB hb); (try clear hb); (try clear hb2); (try clear hk); (try clear hi)))
        go_roundg k2
        case measure => have := HJ3.out; have := HK2.out; omega
        case rel => exact ⟨(wrap64 (x12_2 + 1)), xR, H', ⟨by have := HJ3.out; have := HK2.out; omega⟩, ⟨by (with_reducible repeat (first | apply Kd.R_alloc | apply Kd.R_drewN | apply Kd.R_drew)); exact HO_9.out⟩, ⟨by (with_reducible repeat (first | apply Kd.R_alloc | apply Kd.R_drewN | apply Kd.R_drew)); exact HO_10.out⟩, ⟨by (with_reducible repeat (first | apply Kd.R_alloc | apply Kd.R_drewN | apply Kd.R_drew)); exact HO_11.out⟩, ⟨xB⟩⟩
       replace c39 := Bool.eq_false_iff.mpr c39
       subst c39
       rw [if_neg (show ¬ (false = true) by decide)] at H
       replace H := xb H
       obtain ⟨t127, A44, H⟩ := H
       by_cases c45 : t127 = true
       ·
        subst c45
        rw [if_pos rfl] at H
        have H' := Aside0.mk H
        clear H
        obtain ⟨Ao46, co46, eo46⟩ := Kd.R_slice HO_11.out
        subst eo46
        have p122 : 0 ≤ (x12_2 : Int) := xD
        have q122 : x12_2 < (t119.length : Int) := xD
        obtain ⟨ad122, e122, hx122_0, hx122_1, hx122_2, hx122_3, hx122_4, hx122_5⟩ := at_T27 (Kd.R_reads' HO_11.out).2.2 x12_2 p122 q122
        cases e122
        replace p122 := eq_true p122
        replace q122 := eq_true q122
        go_wp2_with (first | ((with_reducible refine gate_callee (f := 24) rfl ?_); refine goesL_ (some 63) rfl rfl Tryz.func24 (by kernel_rfl) rfl #[.slice (some ad122) t119.length co46, .agg #[.string ((rd_T27 t119 x12_2).f0), .int .i64 ((rd_T27 t119 x12_2).f1.f0), .int .i64 ((rd_T27 t119 x12_2).f1.f1), .int .i64 ((rd_T27 t119 x12_2).f1.f2), .string ((rd_T27 t119 x12_2).f1.f3), .string ((rd_T27 t119 x12_2).f1.f4)]] rfl xS ?_; (with_reducible refine (armadalaw17_covers.calls k2 _ _ t119 ((rd_T27 t119 x12_2).f0) ((rd_T27 t119 x12_2).f1.f0) ((rd_T27 t119 x12_2).f1.f1) ((rd_T27 t119 x12_2).f1.f2) ((rd_T27 t119 x12_2).f1.f3) ((rd_T27 t119 x12_2).f1.f4) true _ ?side1 ?side2 A36.out).mono ?_); (case side1 => repeat (first | exact (Kd.R_reads' HO_11.out).2.2 | (with_reducible refine Kd.C_alloc ?_ _) | (with_reducible refine Kd.C_drewN ?_ _) | (with_reducible refine Kd.C_drew ?_))); (case side2 => exact (Kd.R_reads' HO_11.out).2.1); rintro e w47 ⟨rfl, hb⟩; refine ⟨_, rfl, ?_⟩; replace HO_9 := Aside0.mk (Kd.R_below (by (with_reducible repeat (first | apply Kd.R_alloc | apply Kd.R_drewN | apply Kd.R_drew)); exact HO_9.out) hb); replace HO_10 := Aside0.mk (Kd.R_below (by (with_reducible repeat (first | apply Kd.R_alloc | apply Kd.R_drewN | apply Kd.R_drew)); exact HO_10.out) hb); replace HO_11 := Aside0.mk (Kd.R_below (by (with_reducible repeat (first | apply Kd.R_alloc | apply Kd.R_drewN | apply Kd.R_drew)); exact HO_11.out) hb); replace HB := Aside0.mk (below_step xB hb); (try clear hb); (try clear hb2); (try clear hk); (try clear hi); have p124 : 0 ≤ (x12_2 : Int) := xD; have q124 : x12_2 < (t119.length : Int) := xD; obtain ⟨ad124, e124, hx124_0, hx124_1, hx124_2, hx124_3, hx124_4, hx124_5⟩ := at_T27 (Kd.R_reads' HO_11.out).2.2 x12_2 p124 q124; obtain rfl : ad122 = ad124 := (by injection e124); replace p124 := eq_true p124; replace q124 := eq_true q124; obtain ⟨Ao48, co48, eo48⟩ := Kd.R_slice HO_9.out; subst eo48) | (go_at_call 27; (with_reducible refine (armadalaw17_same.calls k2 _ _ t113 ((rd_T27 t119 x12_2).f0) ((rd_T27 t119 x12_2).f1.f0) ((rd_T27 t119 x12_2).f1.f1) ((rd_T27 t119 x12_2).f1.f2) ((rd_T27 t119 x12_2).f1.f3) ((rd_T27 t119 x12_2).f1.f4) false _ ?side1 ?side2 A38.out).mono ?_); (case side1 => repeat (first | exact (Kd.R_reads' HO_9.out).2.2 | (with_reducible refine Kd.C_alloc ?_ _) | (with_reducible refine Kd.C_drewN ?_ _) | (with_reducible refine Kd.C_drew ?_))); (case side2 => exact (Kd.R_reads' HO_9.out).2.1); rintro e w49 ⟨rfl, hb⟩; replace HO_9 := Aside0.mk (Kd.R_below (by (with_reducible repeat (first | apply Kd.R_alloc | apply Kd.R_drewN | apply Kd.R_drew)); exact HO_9.out) hb); replace HO_10 := Aside0.mk (Kd.R_below (by (with_reducible repeat (first | apply Kd.R_alloc | apply Kd.R_drewN | apply Kd.R_drew)); exact HO_10.out) hb); replace HO_11 := Aside0.mk (Kd.R_below (by (with_reducible repeat (first | apply Kd.R_alloc | apply Kd.R_drewN | apply Kd.R_drew)); exact HO_11.out) hb); replace HB := Aside0.mk (below_step xB hb); (try clear hb); (try clear hb2); (try clear hk); (try clear hi); have p126 : 0 ≤ (x12_2 : Int) := xD; have q126 : x12_2 < (t119.length : Int) := xD; obtain ⟨ad126, e126, hx126_0, hx126_1, hx126_2, hx126_3, hx126_4, hx126_5⟩ := at_T27 (Kd.R_reads' HO_11.out).2.2 x12_2 p126 q126; obtain rfl : ad122 = ad126 := (by injection e126); replace p126 := eq_true p126; replace q126 := eq_true q126; obtain ⟨Ao50, co50, eo50⟩ := Kd.R_slice HO_10.out; subst eo50) | (go_at_call 27; (with_reducible refine (armadalaw17_same.calls k2 _ _ t116 ((rd_T27 t119 x12_2).f0) ((rd_T27 t119 x12_2).f1.f0) ((rd_T27 t119 x12_2).f1.f1) ((rd_T27 t119 x12_2).f1.f2) ((rd_T27 t119 x12_2).f1.f3) ((rd_T27 t119 x12_2).f1.f4) true _ ?side1 ?side2 A44.out).mono ?_); (case side1 => repeat (first | exact (Kd.R_reads' HO_10.out).2.2 | (with_reducible refine Kd.C_alloc ?_ _) | (with_reducible refine Kd.C_drewN ?_ _) | (with_reducible refine Kd.C_drew ?_))); (case side2 => exact (Kd.R_reads' HO_10.out).2.1); rintro e w51 ⟨rfl, hb⟩; replace HO_9 := Aside0.mk (Kd.R_below (by (with_reducible repeat (first | apply Kd.R_alloc | apply Kd.R_drewN | apply Kd.R_drew)); exact HO_9.out) hb); replace HO_10 := Aside0.mk (Kd.R_below (by (with_reducible repeat (first | apply Kd.R_alloc | apply Kd.R_drewN | apply Kd.R_drew)); exact HO_10.out) hb); replace HO_11 := Aside0.mk (Kd.R_below (by (with_reducible repeat (first | apply Kd.R_alloc | apply Kd.R_drewN | apply Kd.R_drew)); exact HO_11.out) hb); replace HB := Aside0.mk (below_step xB hb); (try clear hb); (try clear hb2); (try clear hk); (try clear hi)))
        go_roundg k2
        case measure => have := HJ3.out; have := HK2.out; omega
        case rel => exact ⟨(wrap64 (x12_2 + 1)), xR, H', ⟨by have := HJ3.out; have := HK2.out; omega⟩, ⟨by (with_reducible repeat (first | apply Kd.R_alloc | apply Kd.R_drewN | apply Kd.R_drew)); exact HO_9.out⟩, ⟨by (with_reducible repeat (first | apply Kd.R_alloc | apply Kd.R_drewN | apply Kd.R_drew)); exact HO_10.out⟩, ⟨by (with_reducible repeat (first | apply Kd.R_alloc | apply Kd.R_drewN | apply Kd.R_drew)); exact HO_11.out⟩, ⟨xB⟩⟩
       replace c45 := Bool.eq_false_iff.mpr c45
       subst c45
       rw [if_neg (show ¬ (false = true) by decide)] at H
       exact absurd ((Option.some.inj H).trans HTRU_.out) (by decide)
      replace c37 := Bool.eq_false_iff.mpr c37
      subst c37
      rw [if_neg (show ¬ (false = true) by decide)] at H
      exact absurd ((Option.some.inj H).trans HTRU_.out) (by decide)
     rw [if_neg c34] at H
     have c34b0 := decide_eq_false c34
     clear c34
     have H' := Aside0.mk H
     clear H
     obtain ⟨Ao52, co52, eo52⟩ := Kd.R_slice HO_11.out
     subst eo52
     go_wp2
     go_loopg [13] k2 (fun kq v13 w' => ∃ (x13_3 : Int), v13 = .int .i64 x13_3 ∧ Aside0 (armadalaw17_MvsRoots.l1 kq t113 t116 t119 x13_3 = some r) ∧ Aside0 (kq ≤ k2) ∧ Aside0 (Kd.R k27 27 w' w.heap.size (fun k_ => some k_ ≠ (v117 : Value).ownBlock ∧ some k_ ≠ ((.slice Ao52 t119.length co52) : Value).ownBlock) v114 t113) ∧ Aside0 (Kd.R k27 27 w' w.heap.size (fun k_ => some k_ ≠ (v114 : Value).ownBlock ∧ some k_ ≠ ((.slice Ao52 t119.length co52) : Value).ownBlock) v117 t116) ∧ Aside0 (Kd.R k27 27 w' w.heap.size (fun k_ => some k_ ≠ (v114 : Value).ownBlock ∧ some k_ ≠ (v117 : Value).ownBlock) (.slice Ao52 t119.length co52) t119) ∧ Aside0 (Below w.heap.size w w'))
     case atStart => exact ⟨(0), xR, H', ⟨Nat.le_refl _⟩, ⟨by (with_reducible repeat (first | apply Kd.R_alloc | apply Kd.R_drewN | apply Kd.R_drew)); exact HO_9.out⟩, ⟨by (with_reducible repeat (first | apply Kd.R_alloc | apply Kd.R_drewN | apply Kd.R_drew)); exact HO_10.out⟩, ⟨by (with_reducible repeat (first | apply Kd.R_alloc | apply Kd.R_drewN | apply Kd.R_drew)); exact HO_11.out⟩, ⟨xB⟩⟩
     case round =>
      clear H'
      try clear c1
      try clear p1
      try clear q1
      try clear hx1
      try clear c2
      try clear p2
      try clear c3
      try clear c4
      try clear c6
      try clear p6
      try clear c7
      try clear c8
      try clear c9
      try clear c9b0
      try clear c9b1
      try clear c11
      try clear c12
      try clear p12
      try clear q12
      try clear hx12
      try clear c13
      try clear c17
      try clear c21
      try clear c22
      try clear c24
      try clear c34
      try clear c34b0
      try clear c35
      try clear c35b0
      try clear c37
      try clear c39
      try clear c45
      try clear hx122_0
      try clear hx122_1
      try clear hx122_2
      try clear hx122_3
      try clear hx122_4
      try clear hx122_5
      try clear hx124_0
      try clear hx124_1
      try clear hx124_2
      try clear hx124_3
      try clear hx124_4
      try clear hx124_5
      try clear hx126_0
      try clear hx126_1
      try clear hx126_2
      try clear hx126_3
      try clear hx126_4
      try clear hx126_5
      try clear p122
      try clear p124
      try clear p126
      try clear p2
      try clear q122
      try clear q124
      try clear q126
      obtain ⟨x13_3, rfl, HA, HK3, HO_9, HO_10, HO_11, HB⟩ := hrel
      cases gk with
      | zero => exact absurd HA.out (by simp [armadalaw17_MvsRoots.l1])
      | succ k3 =>
       have H := HA.out
       clear HA
       simp only [armadalaw17_MvsRoots.l1] at H
       by_cases c53 : x13_3 < (t113.length : Int)
       ·
        rw [if_pos c53] at H
        have c53b0 := decide_eq_true c53
        clear c53
        replace H := xI H
        obtain ⟨c54, H⟩ := H
        have c54b0 := decide_eq_true c54
        clear c54
        replace H := xb H
        obtain ⟨t129, A55, H⟩ := H
        by_cases c56 : t129 = true
        ·
         subst c56
         rw [if_pos rfl] at H
         have H' := Aside0.mk H
         clear H
         obtain ⟨Ao57, co57, eo57⟩ := Kd.R_slice HO_9.out
         subst eo57
         have p128 : 0 ≤ (x13_3 : Int) := xD
         have q128 : x13_3 < (t113.length : Int) := xD
         obtain ⟨ad128, e128, hx128_0, hx128_1, hx128_2, hx128_3, hx128_4, hx128_5⟩ := at_T27 (Kd.R_reads' HO_9.out).2.2 x13_3 p128 q128
         cases e128
         replace p128 := eq_true p128
         replace q128 := eq_true q128
         go_wp2_with (first | ((with_reducible refine gate_callee (f := 24) rfl ?_); refine goesL_ (some 94) rfl rfl Tryz.func24 (by kernel_rfl) rfl #[.slice Ao52 t119.length co52, .agg #[.string ((rd_T27 t113 x13_3).f0), .int .i64 ((rd_T27 t113 x13_3).f1.f0), .int .i64 ((rd_T27 t113 x13_3).f1.f1), .int .i64 ((rd_T27 t113 x13_3).f1.f2), .string ((rd_T27 t113 x13_3).f1.f3), .string ((rd_T27 t113 x13_3).f1.f4)]] rfl xS ?_; (with_reducible refine (armadalaw17_covers.calls k3 _ _ t119 ((rd_T27 t113 x13_3).f0) ((rd_T27 t113 x13_3).f1.f0) ((rd_T27 t113 x13_3).f1.f1) ((rd_T27 t113 x13_3).f1.f2) ((rd_T27 t113 x13_3).f1.f3) ((rd_T27 t113 x13_3).f1.f4) true _ ?side1 ?side2 A55.out).mono ?_); (case side1 => repeat (first | exact (Kd.R_reads' HO_11.out).2.2 | (with_reducible refine Kd.C_alloc ?_ _) | (with_reducible refine Kd.C_drewN ?_ _) | (with_reducible refine Kd.C_drew ?_))); (case side2 => exact (Kd.R_reads' HO_11.out).2.1); rintro e w58 ⟨rfl, hb⟩; refine ⟨_, rfl, ?_⟩; replace HO_9 := Aside0.mk (Kd.R_below (by (with_reducible repeat (first | apply Kd.R_alloc | apply Kd.R_drewN | apply Kd.R_drew)); exact HO_9.out) hb); replace HO_10 := Aside0.mk (Kd.R_below (by (with_reducible repeat (first | apply Kd.R_alloc | apply Kd.R_drewN | apply Kd.R_drew)); exact HO_10.out) hb); replace HO_11 := Aside0.mk (Kd.R_below (by (with_reducible repeat (first | apply Kd.R_alloc | apply Kd.R_drewN | apply Kd.R_drew)); exact HO_11.out) hb); replace HB := Aside0.mk (below_step xB hb); (try clear hb); (try clear hb2); (try clear hk); (try clear hi)))
         go_roundg k3
         case measure => have := HJ3.out; have := HK2.out; have := HK3.out; omega
         case rel => exact ⟨(wrap64 (x13_3 + 1)), xR, H', ⟨by have := HJ3.out; have := HK2.out; have := HK3.out; omega⟩, ⟨by (with_reducible repeat (first | apply Kd.R_alloc | apply Kd.R_drewN | apply Kd.R_drew)); exact HO_9.out⟩, ⟨by (with_reducible repeat (first | apply Kd.R_alloc | apply Kd.R_drewN | apply Kd.R_drew)); exact HO_10.out⟩, ⟨by (with_reducible repeat (first | apply Kd.R_alloc | apply Kd.R_drewN | apply Kd.R_drew)); exact HO_11.out⟩, ⟨xB⟩⟩
        replace c56 := Bool.eq_false_iff.mpr c56
        subst c56
        rw [if_neg (show ¬ (false = true) by decide)] at H
        exact absurd ((Option.some.inj H).trans HTRU_.out) (by decide)
       rw [if_neg c53] at H
       have c53b0 := decide_eq_false c53
       clear c53
       have H' := Aside0.mk H
       clear H
       obtain ⟨Ao59, co59, eo59⟩ := Kd.R_slice HO_9.out
       subst eo59
       go_wp2
       go_loopg [14] k3 (fun kq v14 w' => ∃ (x14_4 : Int), v14 = .int .i64 x14_4 ∧ Aside0 (armadalaw17_MvsRoots.l2 kq t116 t119 x14_4 = some r) ∧ Aside0 (kq ≤ k3) ∧ Aside0 (Kd.R k27 27 w' w.heap.size (fun k_ => some k_ ≠ ((.slice Ao52 t119.length co52) : Value).ownBlock) v117 t116) ∧ Aside0 (Kd.R k27 27 w' w.heap.size (fun k_ => some k_ ≠ (v117 : Value).ownBlock) (.slice Ao52 t119.length co52) t119) ∧ Aside0 (Below w.heap.size w w'))
       case atStart => exact ⟨(0), xR, H', ⟨Nat.le_refl _⟩, ⟨by (with_reducible repeat (first | apply Kd.R_alloc | apply Kd.R_drewN | apply Kd.R_drew)); exact Kd.R_mono HO_10.out (fun _ hk => hk.2)⟩, ⟨by (with_reducible repeat (first | apply Kd.R_alloc | apply Kd.R_drewN | apply Kd.R_drew)); exact Kd.R_mono HO_11.out (fun _ hk => hk.2)⟩, ⟨xB⟩⟩
       case round =>
        clear H'
        try clear c1
        try clear p1
        try clear q1
        try clear hx1
        try clear c2
        try clear p2
        try clear c3
        try clear c4
        try clear c5
        try clear c6
        try clear p6
        try clear c7
        try clear c8
        try clear c9
        try clear c9b0
        try clear c9b1
        try clear c11
        try clear c12
        try clear p12
        try clear q12
        try clear hx12
        try clear c13
        try clear c17
        try clear c21
        try clear c22
        try clear c24
        try clear c34
        try clear c34b0
        try clear c35
        try clear c35b0
        try clear c37
        try clear c39
        try clear c45
        try clear c53
        try clear c53b0
        try clear c54
        try clear c54b0
        try clear c56
        try clear hx122_0
        try clear hx122_1
        try clear hx122_2
        try clear hx122_3
        try clear hx122_4
        try clear hx122_5
        try clear hx124_0
        try clear hx124_1
        try clear hx124_2
        try clear hx124_3
        try clear hx124_4
        try clear hx124_5
        try clear hx126_0
        try clear hx126_1
        try clear hx126_2
        try clear hx126_3
        try clear hx126_4
        try clear hx126_5
        try clear hx128_0
        try clear hx128_1
        try clear hx128_2
        try clear hx128_3
        try clear hx128_4
        try clear hx128_5
        try clear p1
        try clear p12
        try clear p122
        try clear p124
        try clear p126
        try clear p128
        try clear p2
        try clear p6
        try clear q1
        try clear q12
        try clear q122
        try clear q124
        try clear q126
        try clear q128
        obtain ⟨x14_4, rfl, HA, HK4, HO_10, HO_11, HB⟩ := hrel
        cases gk with
        | zero => exact absurd HA.out (by simp [armadalaw17_MvsRoots.l2])
        | succ k4 =>
         have H := HA.out
         clear HA
         simp only [armadalaw17_MvsRoots.l2] at H
         by_cases c60 : x14_4 < (t116.length : Int)
         ·
          rw [if_pos c60] at H
          have c60b0 := decide_eq_true c60
          clear c60
          replace H := xI H
          obtain ⟨c61, H⟩ := H
          have c61b0 := decide_eq_true c61
          clear c61
          replace H := xb H
          obtain ⟨t131, A62, H⟩ := H
          by_cases c63 : t131 = true
          ·
           subst c63
           rw [if_pos rfl] at H
           have H' := Aside0.mk H
           clear H
           obtain ⟨Ao64, co64, eo64⟩ := Kd.R_slice HO_10.out
           subst eo64
           have p130 : 0 ≤ (x14_4 : Int) := xD
           have q130 : x14_4 < (t116.length : Int) := xD
           obtain ⟨ad130, e130, hx130_0, hx130_1, hx130_2, hx130_3, hx130_4, hx130_5⟩ := at_T27 (Kd.R_reads' HO_10.out).2.2 x14_4 p130 q130
           cases e130
           replace p130 := eq_true p130
           replace q130 := eq_true q130
           go_wp2_with (first | ((with_reducible refine gate_callee (f := 24) rfl ?_); refine goesL_ (some 107) rfl rfl Tryz.func24 (by kernel_rfl) rfl #[.slice Ao52 t119.length co52, .agg #[.string ((rd_T27 t116 x14_4).f0), .int .i64 ((rd_T27 t116 x14_4).f1.f0), .int .i64 ((rd_T27 t116 x14_4).f1.f1), .int .i64 ((rd_T27 t116 x14_4).f1.f2), .string ((rd_T27 t116 x14_4).f1.f3), .string ((rd_T27 t116 x14_4).f1.f4)]] rfl xS ?_; (with_reducible refine (armadalaw17_covers.calls k4 _ _ t119 ((rd_T27 t116 x14_4).f0) ((rd_T27 t116 x14_4).f1.f0) ((rd_T27 t116 x14_4).f1.f1) ((rd_T27 t116 x14_4).f1.f2) ((rd_T27 t116 x14_4).f1.f3) ((rd_T27 t116 x14_4).f1.f4) true _ ?side1 ?side2 A62.out).mono ?_); (case side1 => repeat (first | exact (Kd.R_reads' HO_11.out).2.2 | (with_reducible refine Kd.C_alloc ?_ _) | (with_reducible refine Kd.C_drewN ?_ _) | (with_reducible refine Kd.C_drew ?_))); (case side2 => exact (Kd.R_reads' HO_11.out).2.1); rintro e w65 ⟨rfl, hb⟩; refine ⟨_, rfl, ?_⟩; replace HO_10 := Aside0.mk (Kd.R_below (by (with_reducible repeat (first | apply Kd.R_alloc | apply Kd.R_drewN | apply Kd.R_drew)); exact HO_10.out) hb); replace HO_11 := Aside0.mk (Kd.R_below (by (with_reducible repeat (first | apply Kd.R_alloc | apply Kd.R_drewN | apply Kd.R_drew)); exact HO_11.out) hb); replace HB := Aside0.mk (below_step xB hb); (try clear hb); (try clear hb2); (try clear hk); (try clear hi)))
           go_roundg k4
           case measure => have := HJ3.out; have := HK2.out; have := HK3.out; have := HK4.out; omega
           case rel => exact ⟨(wrap64 (x14_4 + 1)), xR, H', ⟨by have := HJ3.out; have := HK2.out; have := HK3.out; have := HK4.out; omega⟩, ⟨by (with_reducible repeat (first | apply Kd.R_alloc | apply Kd.R_drewN | apply Kd.R_drew)); exact HO_10.out⟩, ⟨by (with_reducible repeat (first | apply Kd.R_alloc | apply Kd.R_drewN | apply Kd.R_drew)); exact HO_11.out⟩, ⟨xB⟩⟩
          replace c63 := Bool.eq_false_iff.mpr c63
          subst c63
          rw [if_neg (show ¬ (false = true) by decide)] at H
          exact absurd ((Option.some.inj H).trans HTRU_.out) (by decide)
         rw [if_neg c60] at H
         have c60b0 := decide_eq_false c60
         clear c60
         replace H := xb H
         obtain ⟨t132, A66, H⟩ := H
         obtain rfl := Option.some.inj H
         obtain ⟨Ao67, co67, eo67⟩ := Kd.R_slice HO_10.out
         subst eo67
         go_wp2_with (first | ((with_reducible refine gate_callee (f := 12) rfl ?_); refine goesL_ (some 109) rfl rfl Tryz.func12 (by kernel_rfl) rfl #[] rfl xS ?_; (with_reducible refine (armadalaw17_live.calls  t132 _ ?side1 ?side2 A66.out).mono ?_); (case side1 => exact GW.below HGW.out xB); (case side2 => exact HTRU_.out); rintro e w68 ⟨rfl, hb⟩; refine ⟨_, rfl, ?_⟩; replace HO_10 := Aside0.mk (Kd.R_below (by (with_reducible repeat (first | apply Kd.R_alloc | apply Kd.R_drewN | apply Kd.R_drew)); exact HO_10.out) hb); replace HO_11 := Aside0.mk (Kd.R_below (by (with_reducible repeat (first | apply Kd.R_alloc | apply Kd.R_drewN | apply Kd.R_drew)); exact HO_11.out) hb); replace HB := Aside0.mk (below_step xB hb); (try clear hb); (try clear hb2); (try clear hk); (try clear hi)))
         go_ret
         exact ⟨by first | rfl | (simp [errW_none, errW_some] <;> rfl) | (simp [*, errW_none, errW_some] <;> rfl) | (simp [isEmpty_bne]; done), xB⟩
end Go.Proofs.YtkidfclnakbgiaaGreatDoor.LRoots
end

section
namespace Go.Proofs.YtkidfclnakbgiaaGreatDoor.LRoots
open Go.RowKit Go.Proofs.YtkidfclnakbgiaaGreatDoor Go.Proofs.YtkidfclnakbgiaaGreatDoor.K0 Go.Proofs.YtkidfclnakbgiaaGreatDoor.RD Go.Proofs.YtkidfclnakbgiaaGreatDoor.RO Go.Proofs.YtkidfclnakbgiaaGreatDoor.RS Go.Proofs.YtkidfclnakbgiaaGreatDoorW.PrintWords Go.Proofs.YtkidfclnakbgiaaGreatDoorW.PrintLast Go.Proofs.YtkidfclnakbgiaaGreatDoorW.PrintMore
attribute [local go_sem] max2_int min2_int max_two min_two max_three min_three max_four min_four
set_option linter.unusedVariables false
set_option linter.unusedSimpArgs false
end Go.Proofs.YtkidfclnakbgiaaGreatDoor.LRoots
end

section
namespace Go.Proofs.YtkidfclnakbgiaaGreatDoor
open Go Go.RowKit Go.Proofs Go.Proofs.YtkidfclnakbgiaaGreatDoorW.PrintWords Go.Proofs.YtkidfclnakbgiaaGreatDoor.K0 Go.Proofs.YtkidfclnakbgiaaGreatDoor.RD Go.Proofs.YtkidfclnakbgiaaGreatDoor.RS Go.Proofs.YtkidfclnakbgiaaGreatDoor.RO Go.Proofs.YtkidfclnakbgiaaGreatDoor.LRoots
set_option linter.unusedVariables false
set_option linter.unusedSimpArgs false
theorem roots_l2 (a b : List Rq) (l : List NdR) (h1 : a.length ≤ 6) (h2 : b.length ≤ 6) (h3 : ((l.map ndR).flatMap (·.2)).length ≤ 240) : Ev (fun k => armadalaw17_MvsRoots.l2 k (mv.list b (l.map ndR)) (mv.list (a ++ b) (l.map ndR)) 0) true := by
  have ha := list_len a (l.map ndR); have hb := list_len b (l.map ndR); have hc := list_len (a ++ b) (l.map ndR)
  rw [List.length_append] at hc
  refine ev_from (mv.list b (l.map ndR)).length (fun k n => armadalaw17_MvsRoots.l2 k (mv.list b (l.map ndR)) (mv.list (a ++ b) (l.map ndR)) (n : Int)) (fun _ => true) ?_ ?_ 0 (Nat.zero_le _)
  · refine ev_succ ?_
    simp only [armadalaw17_MvsRoots.l2, Int.lt_irrefl, if_false]
    exact live_ev
  · intro n hn h
    obtain ⟨x, e1, e2, e3⟩ := rdR_at hn
    refine ev_succ ?_
    simp only [armadalaw17_MvsRoots.l2, if_pos (show (n : Int) < ((mv.list b (l.map ndR)).length : Int) from by omega), if_pos (show (0 : Int) ≤ (n : Int) from by omega), e1, wrap_s (show n < 9223372036854775807 by omega)]
    refine Ev.bind (ev_eq (covers_f (mv.list (a ++ b) (l.map ndR)) x (by omega)) (Mv.roots_covers (b := []) mv_good (fun y hy => List.mem_append.2 (.inr hy)) (List.mem_of_getElem? e3))) ?_
    simp only [if_true]
    exact h
theorem roots_l1 (a b : List Rq) (l : List NdR) (h1 : a.length ≤ 6) (h2 : b.length ≤ 6) (h3 : ((l.map ndR).flatMap (·.2)).length ≤ 240) : Ev (fun k => armadalaw17_MvsRoots.l1 k (mv.list a (l.map ndR)) (mv.list b (l.map ndR)) (mv.list (a ++ b) (l.map ndR)) 0) true := by
  have ha := list_len a (l.map ndR); have hb := list_len b (l.map ndR); have hc := list_len (a ++ b) (l.map ndR)
  rw [List.length_append] at hc
  refine ev_from (mv.list a (l.map ndR)).length (fun k n => armadalaw17_MvsRoots.l1 k (mv.list a (l.map ndR)) (mv.list b (l.map ndR)) (mv.list (a ++ b) (l.map ndR)) (n : Int)) (fun _ => true) ?_ ?_ 0 (Nat.zero_le _)
  · refine ev_succ ?_
    simp only [armadalaw17_MvsRoots.l1, Int.lt_irrefl, if_false]
    exact roots_l2 a b l h1 h2 h3
  · intro n hn h
    obtain ⟨x, e1, e2, e3⟩ := rdR_at hn
    refine ev_succ ?_
    simp only [armadalaw17_MvsRoots.l1, if_pos (show (n : Int) < ((mv.list a (l.map ndR)).length : Int) from by omega), if_pos (show (0 : Int) ≤ (n : Int) from by omega), e1, wrap_s (show n < 9223372036854775807 by omega)]
    refine Ev.bind (ev_eq (covers_f (mv.list (a ++ b) (l.map ndR)) x (by omega)) (Mv.roots_covers (b := []) mv_good (fun y hy => List.mem_append.2 (.inl hy)) (List.mem_of_getElem? e3))) ?_
    simp only [if_true]
    exact h
theorem roots_l0 (a b : List Rq) (l : List NdR) (h1 : a.length ≤ 6) (h2 : b.length ≤ 6) (h3 : ((l.map ndR).flatMap (·.2)).length ≤ 240) : Ev (fun k => armadalaw17_MvsRoots.l0 k (mv.list a (l.map ndR)) (mv.list b (l.map ndR)) (mv.list (a ++ b) (l.map ndR)) 0) true := by
  have ha := list_len a (l.map ndR); have hb := list_len b (l.map ndR); have hc := list_len (a ++ b) (l.map ndR)
  rw [List.length_append] at hc
  refine ev_from (mv.list (a ++ b) (l.map ndR)).length (fun k n => armadalaw17_MvsRoots.l0 k (mv.list a (l.map ndR)) (mv.list b (l.map ndR)) (mv.list (a ++ b) (l.map ndR)) (n : Int)) (fun _ => true) ?_ ?_ 0 (Nat.zero_le _)
  · refine ev_succ ?_
    simp only [armadalaw17_MvsRoots.l0, Int.lt_irrefl, if_false]
    exact roots_l1 a b l h1 h2 h3
  · intro n hn h
    obtain ⟨x, e1, e2, e3⟩ := rdR_at hn
    have hx := List.mem_of_getElem? e3
    have hs := Mv.roots_same mv_good hx
    refine ev_succ ?_
    simp only [armadalaw17_MvsRoots.l0, if_pos (show (n : Int) < ((mv.list (a ++ b) (l.map ndR)).length : Int) from by omega), if_pos (show (0 : Int) ≤ (n : Int) from by omega), e1, wrap_s (show n < 9223372036854775807 by omega)]
    refine Ev.bind (ev_eq (covers_f (mv.list (a ++ b) (l.map ndR)) x (by omega)) (Mv.covers_self mv_good hx)) ?_
    simp only [if_true]
    refine Ev.bind (same_f (mv.list a (l.map ndR)) x (by omega)) ?_
    cases hsa : mv.same (mv.list a (l.map ndR)) x
    · simp only [Bool.false_eq_true, if_false]
      refine Ev.bind (ev_eq (same_f (mv.list b (l.map ndR)) x (by omega)) (hs.resolve_left (by rw [hsa]; simp))) ?_
      simp only [if_true]
      exact h
    · simp only [if_true]
      exact h
theorem roots_j0 (a b : List Rq) (l : List NdR) : Ev (fun k => armadalaw17_MvsRoots.j0 k a b l true) true := by
  refine ev_succ ?_
  simp only [armadalaw17_MvsRoots.j0, if_true]
  exact live_ev
theorem roots_ev (a b : List Rq) (l : List NdR) (hl : a.length ≤ 9223372036854775807) (hl2 : b.length ≤ 9223372036854775807) (hl1 : l.length ≤ 9223372036854775807) (hi : ∀ x ∈ l, x.f1.length ≤ 9223372036854775807) : Ev (fun k => armadalaw17_MvsRoots.f k a b l) true := by
  unfold armadalaw17_MvsRoots.f
  refine Ev.bind (small_f a l hl hl1 hi) ?_
  cases hs : smallB a l
  · simp only [Bool.false_eq_true, if_false]; exact roots_j0 a b l
  · have S := small_is hs
    have h2 := S.fl; have h3 := S.ll
    simp only [if_true]
    refine Ev.bind (small_f b [] hl2 (by simp) (by simp)) ?_
    cases hs2 : smallB b []
    · simp only [Bool.false_eq_true, if_false]; exact roots_j0 a b l
    · simp only [if_true]
      by_cases ha : (a.length : Int) > 6
      · simp only [if_pos ha]; exact roots_j0 a b l
      · simp only [if_neg ha]
        by_cases hb : (b.length : Int) > 6
        · simp only [decide_eq_true hb]; exact roots_j0 a b l
        · simp only [decide_eq_false hb]
          refine ev_succ ?_
          simp only [armadalaw17_MvsRoots.j0, Bool.false_eq_true, if_false]
          refine Ev.bind (own_f l (by omega)) ?_
          simp only [List.nil_append, Option.bind_some, if_pos (show ([] : List Rq).length + a.length < 1954687338268 from by simp; omega), if_pos (show a.length + b.length < 1954687338268 from by omega)]
          refine Ev.bind (list_f (a := a) (l := l) (by omega)) ?_
          refine Ev.bind (list_f (a := b) (l := l) (by omega)) ?_
          refine Ev.bind (list_f (a := a ++ b) (l := l) (by rw [List.length_append]; omega)) ?_
          exact roots_l0 a b l (by omega) (by omega) h2
theorem roots_pure (a b : List Rq) (l : List NdR) (hl : a.length ≤ 9223372036854775807) (hl2 : b.length ≤ 9223372036854775807) (hl1 : l.length ≤ 9223372036854775807) (hi : ∀ x ∈ l, x.f1.length ≤ 9223372036854775807) : ∃ k, armadalaw17_MvsRoots.f k a b l = some true := (roots_ev a b l hl hl2 hl1 hi).rounds
end Go.Proofs.YtkidfclnakbgiaaGreatDoor
end

section
namespace Go.Proofs.YtkidfclnakbgiaaGreatDoor
open Go Go.ChangeShapes Go.WideShapes Go.ChangeAt Go.RowKit Go.Joins Go.Deep Go.Proofs.YtkidfclnakbgiaaGreatDoor.LRoots
set_option linter.unusedVariables false
set_option maxRecDepth 100000 in
theorem mvsRoots_lifted (os : Os) (started : os.Started) (H : Type) (enc : TypeId × Value → H) :
    ReturnsInHanded {} Tryz.checked os 7 .any (fun w args => (Rows.mvsRootsSpec.pre enc Tryz.prog Tryz.f7 Rows.mvsRootsRow.domain false w args ∧ laidMetH Tryz.prog Rows.mvsRootsRow.laid w) ∧ sizedMet enc Tryz.prog Tryz.f7 (OpenSpec.ofChange Rows.mvsRootsSpec) false w args)
      (Rows.mvsRootsSpec.post enc Tryz.prog Tryz.f7 false true false false) := by
  refine lifted_of (C := Tryz.checked) (tb := 4) laidOut rfl own started (by kernel_rfl) Tryz.func7 (by kernel_rfl) (by kernel_rfl) Tryz.underlying4 ?_
    (ChangeSpec.witness_shaped (enc := enc) (C := Tryz.checked) (os := os) (X := fun w _ => laidMetH Tryz.prog Rows.mvsRootsRow.laid w) false (World.laidAll Tryz.prog os Rows.mvsRootsRow.laid) #[.slice none 0 0, .slice none 0 0, .slice none 0 0] 8 (World.laidAll_os _ _ _)
      (World.shaped_of_ZipB (by kernel_rfl) (by kernel_rfl)) (by kernel_rfl) (by kernel_rfl) (by kernel_rfl)
      (by rw [MakeChecks.laidMetH_plain _ _ _ (by kernel_rfl)]; exact laidMet_laidAll _ (by kernel_rfl) (by kernel_rfl))) ?_
  · intro ds hd
    match ds, hd.trans (show Tryz.f7.params.size = 3 by kernel_rfl) with
    | [_, _, _], _ => rfl
  · intro W base args ds ps hval0 hA0 hz hsh hL
    have hval : ∀ (j : Nat) t v, Tryz.f7.params[j]? = some t → args[j]? = some v → Value.okWide Tryz.prog W .any base t v := hval0
    have hA : DataW.TrodAll enc Tryz.prog W 0 (fun _ => true) true Tryz.f7.params.toList args.toList ds ps := hA0
    rw [Tryz.params7] at hA hval
    obtain ⟨v0, v1, v2, d0, d1, d2, p0, p1, p2, rfl, rfl, rfl, h0, h1, h2⟩ := trodAll_three hA
    obtain ⟨A0, c0, x0, rfl, hc0, hr0⟩ := arg_reqs (hval 0 22 v0 rfl rfl) h0
    obtain ⟨A1, c1, x1, rfl, hc1, hr1⟩ := arg_reqs (hval 1 22 v1 rfl rfl) h1
    obtain ⟨A2, c2, x2, rfl, hc2, hr2⟩ := arg_nodes (hval 2 23 v2 rfl rfl) h2
    obtain ⟨k, hk⟩ := roots_pure x0 x1 x2 hr0.2.1 hr1.2.1 hr2.2.1 (nodes_short hr2)
    exact armadalaw17_MvsRoots.calls k A0 c0 x0 A1 c1 x1 A2 c2 x2 true W hr0 hc0 hr1 hc1 hr2 hc2 (gw_of hsh hL) rfl hk
theorem mvsRoots_holds : Rows.MvsRootsSaid :=
  OpenClaim.holds_of_wide 7 Tryz.f7 rfl rfl rfl rfl rfl rfl rfl ⟨rfl, rfl, rfl, rfl, rfl⟩ rfl rfl rfl rfl rfl (by kernel_rfl) Tryz.func7 (by kernel_rfl)
    (of_decide_eq_true (by kernel_rfl)) (by unfold Func.isWrapper; first | (rw [if_pos (by decide +kernel)]; kernel_rfl) | (rw [if_neg (by decide +kernel)]; exact ⟨rfl, rfl⟩))
    (fun os started H enc _ => mvsRoots_lifted os started H enc)
theorem mvsRoots_card : Rows.MvsRootsCardSaid :=
  Claim7.holds_tied_plain_at .later [] [.data, .data, .data, .data, .sentinel, .sentinel, .pinned] true (true, "5949cf66e13fd1f391be309675234d90056db7f2d948a31634a7fe3da95e5fd9") true mvsRoots_holds (fun _ h => by cases h) (by kernel_rfl) (fun _ h => by cases h) mvsRoots_row_tie rfl ⟨rfl, rfl⟩ (by kernel_rfl) rfl
    (fun f fn hf hfn => by
      obtain rfl : f = 7 := Option.some.inj ((show Tryz.prog.funcNamed "armada/armadalaw17.MvsRoots" = some 7 by kernel_rfl).symm.trans hf) |>.symm
      obtain rfl : fn = Tryz.f7 := (Option.some.inj (Tryz.func7.symm.trans hfn)).symm
      exact ⟨by kernel_rfl, fun j t ht => by
        rw [Tryz.params7] at ht
        have hm : t ∈ [22, 22, 23] := by simpa using Array.mem_of_getElem? ht
        have hall : ([22, 22, 23].all fun u => !Tryz.prog.wantsStandIn u) = true := by kernel_rfl
        exact (show Tryz.prog.wantsStandIn t = false by simpa using List.all_eq_true.1 hall t hm)⟩)
    (by kernel_rfl)
#print axioms mvsRoots_card
end Go.Proofs.YtkidfclnakbgiaaGreatDoor
end
