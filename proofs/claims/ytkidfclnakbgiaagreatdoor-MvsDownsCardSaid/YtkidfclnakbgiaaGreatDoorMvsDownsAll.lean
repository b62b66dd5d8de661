/- The law armadalaw17.MvsDowns answers true whatever it is handed, and what it was handed reads as it did; its tied card holds.
   Conditions: those of the row and the card alone: the listed variables of Go's library hold what the program's own text lays in them. -/
import Derived.Test.YtkidfclnakbgiaaGreatDoorZS9
import Derived.Test.YtkidfclnakbgiaaGreatDoorTie
import Derived.Test.YtkidfclnakbgiaaGreatDoorCards
import Derived.ProofKit
import Derived.OpenShut
import Derived.LaidMore
import Derived.Lay
import Derived.SevenTiedAt
import Derived.Stop.Joined
import Derived.Stop.LaidErr
import Derived.Carry
import Derived.Shelf.Vars
import Derived.Handed
import Derived.JoinedOf
import Derived.Test.YtkidfclnakbgiaaGreatDoorZS10
import Derived.Test.YtkidfclnakbgiaaGreatDoorZS36
import Derived.Test.YtkidfclnakbgiaaGreatDoorZS43
import Derived.Test.YtkidfclnakbgiaaGreatDoorZS40
import Derived.Test.YtkidfclnakbgiaaGreatDoorZS41
import Derived.Test.YtkidfclnakbgiaaGreatDoorZS7
import Derived.Test.YtkidfclnakbgiaaGreatDoorZS44
import Derived.Test.YtkidfclnakbgiaaGreatDoorZS45
import Derived.Lib.SmallJoins
section
namespace Go.Proofs.YtkidfclnakbgiaaGreatDoor
open Go Go.ChangeShapes Go.WideShapes Go.ChangeAt Go.RowKit Go.Joins Go.Deep Go.Proofs.YtkidfclnakbgiaaGreatDoorW.PrintWords
set_option linter.unusedVariables false
theorem own : ownKnob Tryz.prog.godebug = none := by kernel_rfl
theorem laidOut : laidOutB Tryz.prog = true := by kernel_rfl
section
variable {H : Type} {enc : TypeId × Value → H} {P : Program}
theorem trodAll_carry (hl : laidOutB P = true) {W W' : World} (hb : Below W.heap.size W W') : ∀ {ts : List TypeId} {vs : List Value} {ds : List (DataW H)} {ps : List MemPlace},
    (ts.all fun t => P.readableRec t && decide (t < P.types.size)) = true → DataW.TrodAll enc P W 0 (fun _ => true) true ts vs ds ps → ∀ sp : Nat → Bool, (∀ p ∈ ps, sp p.block = true) → DataW.TrodAll enc P W' 0 sp true ts vs ds ps
  | [], [], [], _, _, h, _, _ => h
  | [], [], _ :: _, _, _, h, _, _ => h.elim
  | [], _ :: _, _, _, _, h, _, _ => h.elim
  | _ :: _, [], _, _, _, h, _, _ => h.elim
  | _ :: _, _ :: _, [], _, _, h, _, _ => h.elim
  | t :: ts, v :: vs, d :: ds, ps, hr, h, sp, hs => by
    have hlt := h.lt
    obtain ⟨p, q, h1, h2, rfl⟩ := h
    simp only [List.all_cons, Bool.and_eq_true, decide_eq_true_eq] at hr
    exact ⟨p, q, WideElems.Trod_stays hl hr.1.1 hr.1.2 h1 (fun x hx => hb.same (hlt x (by simp [hx]))) (fun x hx => hs x (by simp [hx])),
      trodAll_carry hl hb (by simpa using hr.2) h2 sp (fun x hx => hs x (by simp [hx])), rfl⟩
theorem post_true {f : Func} {s : ChangeSpec} {W W' : World} {args : Array Value} {ds : List (DataW H)} {before : List MemPlace} {tb : TypeId} (hl : laidOutB P = true) (hv : s.vars = [])
    (hW : DataW.Whole enc P f.params.toList s.vars false W args.toList ds [] before) (hr : (f.params.toList.all fun t => P.readableRec t && decide (t < P.types.size)) = true)
    (hres : f.resultTypes = #[tb]) (hbool : P.underlying tb = some .bool) (hfn : s.fn H (ds ++ []) = { results := [.lit (.bool true)], args := ds }) (hb : Below W.heap.size W W') :
    s.post enc P f false true false false W args (.bool true) W' := by
  have hlt := hW.lt
  obtain ⟨p, q, hA, hV, hpq, hz, hn⟩ := hW
  have hq : q = [] := by rw [hv] at hV; exact hV
  subst hq
  rw [List.append_nil] at hpq
  subst hpq
  refine ⟨ds, [], before, [], before, [], ⟨before, [], hA, hV, (List.append_nil _).symm, hz, hn⟩, ?_, ?_, ?_, hb.frame _, fun h => by cases h⟩
  · rw [hfn, hres]
    exact trodAll_mk1 (shut_bool hbool _)
  · rw [hfn]
    exact trodAll_carry hl hb hr hA _ (fun x hx => by simpa using hlt x hx)
  · rw [hfn, hv]
    exact rfl
theorem lifted_of {C : Checked} {os : Os} {f : FuncId} {fn : Func} {s : ChangeSpec} {conds : List PathCond} {laid : List (String × DataW Unit)} {tb : TypeId} (hl : laidOutB C.prog = true) (hv : s.vars = [])
    (own : ownKnob C.prog.godebug = none) (started : os.Started) (noInit : C.prog.inits.idxOf? f = none) (hfn : C.prog.funcs[f]? = some fn)
    (hr : (fn.params.toList.all fun t => C.prog.readableRec t && decide (t < C.prog.types.size)) = true)
    (hres : fn.resultTypes = #[tb]) (hbool : C.prog.underlying tb = some .bool)
    (hspec : ∀ ds : List (DataW H), ds.length = fn.params.size → s.fn H (ds ++ []) = { results := [.lit (.bool true)], args := ds })
    (witness : ∃ (w : World) (tape : Tape) (i : Input), w.os = os ∧ (w.forCall tape i).Shaped C.prog ∧ i.vars = [] ∧ Input.okWide C.prog (w.forCall tape i) .any w.heap.size f i ∧
      ((s.pre enc C.prog fn conds false (w.forCall tape i).memory i.args ∧ laidMetH C.prog laid (w.forCall tape i).memory) ∧ sizedMet enc C.prog fn (OpenSpec.ofChange s) false (w.forCall tape i).memory i.args) ∧
      ({} : Assume).holds C.prog (lone (Frame.enter C.prog f i.args .normal) [] (w.forCall tape i)))
    (law : ∀ (W : World) (base : Nat) (args : Array Value) (ds : List (DataW H)) (ps : List MemPlace),
      (∀ (j : Nat) t v, fn.params[j]? = some t → args[j]? = some v → Value.okWide C.prog W .any base t v) →
      DataW.TrodAll enc C.prog W 0 (fun _ => true) true fn.params.toList args.toList ds ps →
      (DataW.weightsEach C.prog fn.params.toList ds).all (· ≤ reachBytes) = true →
      W.ShapedOpen C.prog → laidMetH C.prog laid W →
      Calls C.prog f args W fun e W' => e = .returned (.bool true) ∧ Below W.heap.size W W') :
    ReturnsInHanded {} C os f .any (fun w args => (s.pre enc C.prog fn conds false w args ∧ laidMetH C.prog laid w) ∧ sizedMet enc C.prog fn (OpenSpec.ofChange s) false w args) (s.post enc C.prog fn false true false false) := by
  refine returnsInHanded_of_calls own started noInit witness ?_
  intro w tape i _ hsh _ hok hpre hholds
  obtain ⟨_, _, _, fn', hfn', _, _, _, _, hval⟩ := hok
  have e : fn' = fn := Option.some.inj (hfn'.symm.trans hfn)
  subst e
  obtain ⟨⟨⟨ds, gs, before, hw, hc⟩, hx⟩, hz⟩ := hpre
  have hgs : gs = [] := by
    obtain ⟨_, _, _, hV, _⟩ := hw
    rw [hv] at hV
    cases gs with
    | nil => rfl
    | cons _ _ => exact hV.elim
  subst hgs
  have hw' := DataW.Whole.of_heap (w' := w.forCall tape i) (by rfl) hw
  have hz' := hz.weights hw
  obtain ⟨p, q, hA, _⟩ := hw'
  have hlen : ∀ {ts : List TypeId} {vs : List Value} {ds : List (DataW H)} {ps : List MemPlace}, DataW.TrodAll enc C.prog (w.forCall tape i) 0 (fun _ => true) true ts vs ds ps → ds.length = ts.length := by
    intro ts
    induction ts with
    | nil => intro vs ds ps h; cases vs <;> cases ds <;> first | rfl | exact h.elim
    | cons t ts ih =>
      intro vs ds ps h
      cases vs <;> cases ds <;> first | exact h.elim | skip
      obtain ⟨_, _, _, h2, _⟩ := h
      simp [ih h2]
  have hz2 : (DataW.weightsEach C.prog fn'.params.toList ds).all (· ≤ reachBytes) = true := by
    have e1 : (OpenSpec.ofChange s).bare.plain.varTypes C.prog = [] := by
      show s.plain.varTypes C.prog = []
      unfold DataSpec.varTypes ChangeSpec.plain
      simp [hv]
    rw [e1, List.append_nil, List.append_nil] at hz'
    exact hz'
  refine (law (w.forCall tape i) w.heap.size i.args ds p hval hA hz2 hsh (hx.of_heap (by rfl))).mono fun e W' ⟨he, hb⟩ => ?_
  subst he
  refine ChangeSpec.post_blind (post_true hl hv (DataW.Whole.of_heap (w' := w.forCall tape i) (by rfl) hw) hr hres hbool (hspec ds ?_) hb)
  rw [hlen hA]; simp
end
theorem laid_mem {P : Program} {W : World} {x : String × DataW Unit} : ∀ {l : List (String × DataW Unit)}, laidMet P l W → x ∈ l → ∃ r, laidMet P (x :: r) W
  | [], _, h => by cases h
  | y :: l, hl, h => by
    rcases List.mem_cons.1 h with rfl | h'
    · exact ⟨l, hl⟩
    · exact laid_mem hl.tail h'
theorem iface_var {P : Program} {W : World} {n nm : String} {d : DataW Unit} {r : List (String × DataW Unit)} {g : Nat} {ti : TypeId} {ms : Array (String × TypeId)} (h : laidMet P ((n, .iface nm d) :: r) W)
    (hg : P.globalNamed n = some g) (ht : (P.globals[g]?).map (·.type) = some ti) (hi : P.underlying ti = some (.interface ms)) : ∃ tp p, W.var? P n = some #[.iface tp p] := by
  obtain ⟨ps, ⟨g0, t0, cs0, f0, p0, q0, hg0, ht0, hv0, hd0, _, _⟩, _, _⟩ := h
  obtain rfl := Option.some.inj (hg.symm.trans hg0)
  obtain rfl := Option.some.inj (ht.symm.trans ht0)
  obtain ⟨l0⟩ := cs0
  cases f0 with
  | zero => cases hd0
  | succ f0 =>
    unfold DataW.trod at hd0
    rw [hi] at hd0
    split at hd0 <;> first
      | (rename_i h1 h2; cases h1; done)
      | skip
    all_goals first
      | (cases hd0; done)
      | (rename_i u v h1 h2; simp only at h2; subst h2; exact ⟨u, v, hv0⟩)
      | skip
    all_goals (rename_i h1; cases h1)
section
variable {H : Type} {enc : TypeId × Value → H} {P : Program} {w : World} {base : Nat} {spare : Nat → Bool} {held : Bool}
end
/-- What the row lists gives the walk's world. -/
theorem gw_of {W : World} (h : W.ShapedOpen Tryz.prog) (hl : laidMetH Tryz.prog Rows.mvsDownsRow.laid W) : GW W := by
  rw [MakeChecks.laidMetH_plain _ _ _ (by kernel_rfl)] at hl
  obtain ⟨_, h1⟩ := laid_mem (x := ("internal/strconv.uint64pow10", Rows.laid_internal_strconv_uint64pow10)) hl (by repeat (first | exact List.mem_cons_self .. | apply List.mem_cons_of_mem))
  obtain ⟨_, h2⟩ := laid_mem (x := ("strconv.ErrRange", Rows.laid_strconv_ErrRange)) hl (by repeat (first | exact List.mem_cons_self .. | apply List.mem_cons_of_mem))
  obtain ⟨_, h3⟩ := laid_mem (x := ("strconv.ErrSyntax", Rows.laid_strconv_ErrSyntax)) hl (by repeat (first | exact List.mem_cons_self .. | apply List.mem_cons_of_mem))
  exact {
    maxLen := cell_of_shapedOpen_int (P := Tryz.prog) (g := 0) (t := 3) (zero := #[.int .i64 0]) h (of_decide_eq_true (by kernel_rfl)) (by kernel_rfl) rfl (by kernel_rfl) (by kernel_rfl) Tryz.underlying3
    pow10 := Lib.tabIs_of_head (k := .u64) (zs := Lib.pow10Tab) (g := 5) (t := 181) (e := 102) (n := 20) (by kernel_rfl) (by kernel_rfl) (by kernel_rfl) (by kernel_rfl) (by kernel_rfl) (by kernel_rfl)
      (show laidMet _ ((_, Lib.tabData .u64 Lib.pow10Tab) :: _) _ from (show Rows.laid_internal_strconv_uint64pow10 = (Lib.tabData .u64 Lib.pow10Tab : DataW Unit) from by kernel_rfl) ▸ h1)
    errS := iface_var h3 (g := 1) (ti := 130) (by kernel_rfl) (by kernel_rfl) Tryz.underlying130
    errR := iface_var h2 (g := 2) (ti := 130) (by kernel_rfl) (by kernel_rfl) Tryz.underlying130 }
end Go.Proofs.YtkidfclnakbgiaaGreatDoor
end

section
namespace Go.Proofs.YtkidfclnakbgiaaGreatDoor.LDowns
open Go.RowKit Go.Proofs.YtkidfclnakbgiaaGreatDoor Go.Proofs.YtkidfclnakbgiaaGreatDoor.K0 Go.Proofs.YtkidfclnakbgiaaGreatDoor.RD Go.Proofs.YtkidfclnakbgiaaGreatDoor.RO Go.Proofs.YtkidfclnakbgiaaGreatDoor.RS Go.Proofs.YtkidfclnakbgiaaGreatDoorW.PrintWords Go.Proofs.YtkidfclnakbgiaaGreatDoorW.PrintLast Go.Proofs.YtkidfclnakbgiaaGreatDoorW.PrintMore
attribute [local go_sem] max2_int min2_int max_two min_two max_three min_three max_four min_four
set_option linter.unusedVariables false
set_option linter.unusedSimpArgs false
end Go.Proofs.YtkidfclnakbgiaaGreatDoor.LDowns
end

section
namespace Go.Proofs.YtkidfclnakbgiaaGreatDoor.LDowns
open Go.RowKit Go.Proofs.YtkidfclnakbgiaaGreatDoor Go.Proofs.YtkidfclnakbgiaaGreatDoor.K0 Go.Proofs.YtkidfclnakbgiaaGreatDoor.RD Go.Proofs.YtkidfclnakbgiaaGreatDoor.RO Go.Proofs.YtkidfclnakbgiaaGreatDoor.RS Go.Proofs.YtkidfclnakbgiaaGreatDoorW.PrintWords Go.Proofs.YtkidfclnakbgiaaGreatDoorW.PrintLast Go.Proofs.YtkidfclnakbgiaaGreatDoorW.PrintMore
attribute [local go_sem] max2_int min2_int max_two min_two max_three min_three max_four min_four
set_option linter.unusedVariables false
set_option linter.unusedSimpArgs false
mutual
def armadalaw17_MvsDowns.j0 : Nat → List (S27) → List (S46) → Bool → ByteArray → Int → Int → Int → ByteArray → ByteArray → Option (Bool)
 | 0, _, _, _, _, _, _, _, _, _ => none
 | k + 1, x0, x1, x27, x102000, x102001, x102002, x102003, x102004, x102005 => if x27 = true then ((armadalaw17_live.f).bind fun t108 => (some t108)) else ((armadalaw17_own.f k x1).bind fun t109 => ((mvs_Downgrade.f x0 t109 x102000 x102001 x102002 x102003 x102004 x102005).bind fun t112 => ((armadalaw17_own.f k x1).bind fun t115 => ((mvs_List.f t112 t115).bind fun t118 => (armadalaw17_MvsDowns.l0 k x0 x1 t112 t118 0 x102000 x102001 x102002 x102003 x102004 x102005)))))
def armadalaw17_MvsDowns.l0 : Nat → List (S27) → List (S46) → List (S27) → List (S27) → Int → ByteArray → Int → Int → Int → ByteArray → ByteArray → Option (Bool)
 | 0, _, _, _, _, _, _, _, _, _, _, _ => none
 | k + 1, x0, x1, x7, x8, x9, x102000, x102001, x102002, x102003, x102004, x102005 => if x9 < (x8.length : Int) then (if 0 ≤ x9 then (if ((rd_T27 x8 x9).f0).toList = x102000.toList then ((armadaref07_Compare.f k ((rd_T27 x8 x9).f1.f0) ((rd_T27 x8 x9).f1.f1) ((rd_T27 x8 x9).f1.f2) ((rd_T27 x8 x9).f1.f3) ((rd_T27 x8 x9).f1.f4) x102001 x102002 x102003 x102004 x102005).bind fun t123 => (if t123 > 0 then (some false) else (armadalaw17_MvsDowns.l0 k x0 x1 x7 x8 (wrap64 (x9 + 1)) x102000 x102001 x102002 x102003 x102004 x102005))) else (armadalaw17_MvsDowns.l0 k x0 x1 x7 x8 (wrap64 (x9 + 1)) x102000 x102001 x102002 x102003 x102004 x102005)) else (none)) else ((armadalaw17_own.f k x1).bind fun t124 => ((mvs_List.f x0 t124).bind fun t127 => (armadalaw17_MvsDowns.l1 k x0 x7 t127 true 0 x102000 x102001 x102002 x102003 x102004 x102005)))
def armadalaw17_MvsDowns.l1 : Nat → List (S27) → List (S27) → List (S27) → Bool → Int → ByteArray → Int → Int → Int → ByteArray → ByteArray → Option (Bool)
 | 0, _, _, _, _, _, _, _, _, _, _, _ => none
 | k + 1, x0, x7, x10, x11, x12, x102000, x102001, x102002, x102003, x102004, x102005 => if x12 < (x10.length : Int) then (if x11 = true then (if 0 ≤ x12 then (if ((rd_T27 x10 x12).f0).toList = x102000.toList then ((armadaref07_Compare.f k ((rd_T27 x10 x12).f1.f0) ((rd_T27 x10 x12).f1.f1) ((rd_T27 x10 x12).f1.f2) ((rd_T27 x10 x12).f1.f3) ((rd_T27 x10 x12).f1.f4) x102001 x102002 x102003 x102004 x102005).bind fun t132 => (armadalaw17_MvsDowns.l1 k x0 x7 x10 (decide (t132 ≤ 0)) (wrap64 (x12 + 1)) x102000 x102001 x102002 x102003 x102004 x102005)) else (armadalaw17_MvsDowns.l1 k x0 x7 x10 true (wrap64 (x12 + 1)) x102000 x102001 x102002 x102003 x102004 x102005)) else (none)) else (armadalaw17_MvsDowns.l1 k x0 x7 x10 false (wrap64 (x12 + 1)) x102000 x102001 x102002 x102003 x102004 x102005)) else (if x11 = true then ((armadaref17_Same.f k x7 x0).bind fun t133 => (if t133 = true then (if (x7.length : Int) ≤ (x0.length : Int) then ((armadalaw17_live.f).bind fun t134 => (some t134)) else (some false)) else (some false))) else (if (x7.length : Int) ≤ (x0.length : Int) then ((armadalaw17_live.f).bind fun t135 => (some t135)) else (some false)))
end
def armadalaw17_MvsDowns.f (k : Nat) (l0 : List (S27)) (l1 : List (S46)) (a2_0 : ByteArray) (a2_1 : Int) (a2_2 : Int) (a2_3 : Int) (a2_4 : ByteArray) (a2_5 : ByteArray) : Option (Bool) := (armadaref17_Small.f k l0 l1).bind fun t102 => (if t102 = true then ((armadaref17_Small.f k (([(⟨a2_0, (⟨a2_1, a2_2, a2_3, a2_4, a2_5⟩ : S25)⟩ : S27)] : List (S27))) ([] : List (S46))).bind fun t106 => (if t106 = true then ((armadaref17_May.f k a2_0 a2_1 a2_2 a2_3 a2_4 a2_5).bind fun t107 => (armadalaw17_MvsDowns.j0 k l0 l1 (!t107) a2_0 a2_1 a2_2 a2_3 a2_4 a2_5)) else (armadalaw17_MvsDowns.j0 k l0 l1 true a2_0 a2_1 a2_2 a2_3 a2_4 a2_5))) else (armadalaw17_MvsDowns.j0 k l0 l1 true a2_0 a2_1 a2_2 a2_3 a2_4 a2_5))
theorem armadalaw17_MvsDowns.mono_l : ∀ k, (∀ y0 y1 y2 y3 y4 y5 y6 y7 y8, LeO (armadalaw17_MvsDowns.j0 k y0 y1 y2 y3 y4 y5 y6 y7 y8) (armadalaw17_MvsDowns.j0 (k + 1) y0 y1 y2 y3 y4 y5 y6 y7 y8)) ∧ (∀ y0 y1 y2 y3 y4 y5 y6 y7 y8 y9 y10, LeO (armadalaw17_MvsDowns.l0 k y0 y1 y2 y3 y4 y5 y6 y7 y8 y9 y10) (armadalaw17_MvsDowns.l0 (k + 1) y0 y1 y2 y3 y4 y5 y6 y7 y8 y9 y10)) ∧ (∀ y0 y1 y2 y3 y4 y5 y6 y7 y8 y9 y10, LeO (armadalaw17_MvsDowns.l1 k y0 y1 y2 y3 y4 y5 y6 y7 y8 y9 y10) (armadalaw17_MvsDowns.l1 (k + 1) y0 y1 y2 y3 y4 y5 y6 y7 y8 y9 y10))
 | 0 => ⟨fun _ _ _ _ _ _ _ _ _ r h => by simp [armadalaw17_MvsDowns.j0] at h, fun _ _ _ _ _ _ _ _ _ _ _ r h => by simp [armadalaw17_MvsDowns.l0] at h, fun _ _ _ _ _ _ _ _ _ _ _ r h => by simp [armadalaw17_MvsDowns.l1] at h⟩
 | k + 1 => by
  obtain ⟨ih0, ih1, ih2⟩ := armadalaw17_MvsDowns.mono_l k
  refine ⟨?_, ?_, ?_⟩
  ·
   intro y0 y1 y2 y3 y4 y5 y6 y7 y8
   unfold armadalaw17_MvsDowns.j0
   repeat' first
   | (with_reducible exact ih0 _ _ _ _ _ _ _ _ _)
   | (with_reducible exact ih1 _ _ _ _ _ _ _ _ _ _ _)
   | (with_reducible exact ih2 _ _ _ _ _ _ _ _ _ _ _)
   | (with_reducible exact armadalaw17_own.mono _ _)
   | (with_reducible exact armadaref07_Compare.mono _ _ _ _ _ _ _ _ _ _ _)
   | (with_reducible exact armadaref17_May.mono _ _ _ _ _ _ _)
   | (with_reducible exact armadaref17_Same.mono _ _ _)
   | (with_reducible exact armadaref17_Small.mono _ _ _)
   | (with_reducible exact LeO.refl _)
   | (with_reducible exact LeO.none _)
   | (with_reducible refine LeO.ite ?_ ?_)
   | (with_reducible refine LeO.bind ?_ (fun _ => ?_))
   | exact ih0 _ _ _ _ _ _ _ _ _
   | exact ih1 _ _ _ _ _ _ _ _ _ _ _
   | exact ih2 _ _ _ _ _ _ _ _ _ _ _
   | exact armadalaw17_own.mono _ _
   | exact armadaref07_Compare.mono _ _ _ _ _ _ _ _ _ _ _
   | exact armadaref17_May.mono _ _ _ _ _ _ _
   | exact armadaref17_Same.mono _ _ _
   | exact armadaref17_Small.mono _ _ _
   | exact LeO.none _
   | refine LeO.ite ?_ ?_
   | refine LeO.bind ?_ (fun _ => ?_)
  ·
   intro y0 y1 y2 y3 y4 y5 y6 y7 y8 y9 y10
   unfold armadalaw17_MvsDowns.l0
   repeat' first
   | (with_reducible exact ih0 _ _ _ _ _ _ _ _ _)
   | (with_reducible exact ih1 _ _ _ _ _ _ _ _ _ _ _)
   | (with_reducible exact ih2 _ _ _ _ _ _ _ _ _ _ _)
   | (with_reducible exact armadalaw17_own.mono _ _)
   | (with_reducible exact armadaref07_Compare.mono _ _ _ _ _ _ _ _ _ _ _)
   | (with_reducible exact armadaref17_May.mono _ _ _ _ _ _ _)
   | (with_reducible exact armadaref17_Same.mono _ _ _)
   | (with_reducible exact armadaref17_Small.mono _ _ _)
   | (with_reducible exact LeO.refl _)
   | (with_reducible exact LeO.none _)
   | (with_reducible refine LeO.ite ?_ ?_)
   | (with_reducible refine LeO.bind ?_ (fun _ => ?_))
   | exact ih0 _ _ _ _ _ _ _ _ _
   | exact ih1 _ _ _ _ _ _ _ _ _ _ _
   | exact ih2 _ _ _ _ _ _ _ _ _ _ _
   | exact armadalaw17_own.mono _ _
   | exact armadaref07_Compare.mono _ _ _ _ _ _ _ _ _ _ _
   | exact armadaref17_May.mono _ _ _ _ _ _ _
   | exact armadaref17_Same.mono _ _ _
   | exact armadaref17_Small.mono _ _ _
   | exact LeO.none _
   | refine LeO.ite ?_ ?_
   | refine LeO.bind ?_ (fun _ => ?_)
  ·
   intro y0 y1 y2 y3 y4 y5 y6 y7 y8 y9 y10
   unfold armadalaw17_MvsDowns.l1
   repeat' first
   | (with_reducible exact ih0 _ _ _ _ _ _ _ _ _)
   | (with_reducible exact ih1 _ _ _ _ _ _ _ _ _ _ _)
   | (with_reducible exact ih2 _ _ _ _ _ _ _ _ _ _ _)
   | (with_reducible exact armadalaw17_own.mono _ _)
   | (with_reducible exact armadaref07_Compare.mono _ _ _ _ _ _ _ _ _ _ _)
   | (with_reducible exact armadaref17_May.mono _ _ _ _ _ _ _)
   | (with_reducible exact armadaref17_Same.mono _ _ _)
   | (with_reducible exact armadaref17_Small.mono _ _ _)
   | (with_reducible exact LeO.refl _)
   | (with_reducible exact LeO.none _)
   | (with_reducible refine LeO.ite ?_ ?_)
   | (with_reducible refine LeO.bind ?_ (fun _ => ?_))
   | exact ih0 _ _ _ _ _ _ _ _ _
   | exact ih1 _ _ _ _ _ _ _ _ _ _ _
   | exact ih2 _ _ _ _ _ _ _ _ _ _ _
   | exact armadalaw17_own.mono _ _
   | exact armadaref07_Compare.mono _ _ _ _ _ _ _ _ _ _ _
   | exact armadaref17_May.mono _ _ _ _ _ _ _
   | exact armadaref17_Same.mono _ _ _
   | exact armadaref17_Small.mono _ _ _
   | exact LeO.none _
   | refine LeO.ite ?_ ?_
   | refine LeO.bind ?_ (fun _ => ?_)
theorem armadalaw17_MvsDowns.mono : ∀ a0 a1 a2 a3 a4 a5 a6 a7 k, LeO (armadalaw17_MvsDowns.f k a0 a1 a2 a3 a4 a5 a6 a7) (armadalaw17_MvsDowns.f (k + 1) a0 a1 a2 a3 a4 a5 a6 a7) := by
 intro a0 a1 a2 a3 a4 a5 a6 a7 k
 obtain ⟨ih0, ih1, ih2⟩ := armadalaw17_MvsDowns.mono_l k
 unfold armadalaw17_MvsDowns.f
 repeat' first
   | (with_reducible exact ih0 _ _ _ _ _ _ _ _ _)
   | (with_reducible exact ih1 _ _ _ _ _ _ _ _ _ _ _)
   | (with_reducible exact ih2 _ _ _ _ _ _ _ _ _ _ _)
   | (with_reducible exact armadalaw17_own.mono _ _)
   | (with_reducible exact armadaref07_Compare.mono _ _ _ _ _ _ _ _ _ _ _)
   | (with_reducible exact armadaref17_May.mono _ _ _ _ _ _ _)
   | (with_reducible exact armadaref17_Same.mono _ _ _)
   | (with_reducible exact armadaref17_Small.mono _ _ _)
   | (with_reducible exact LeO.refl _)
   | (with_reducible exact LeO.none _)
   | (with_reducible refine LeO.ite ?_ ?_)
   | (with_reducible refine LeO.bind ?_ (fun _ => ?_))
   | exact ih0 _ _ _ _ _ _ _ _ _
   | exact ih1 _ _ _ _ _ _ _ _ _ _ _
   | exact ih2 _ _ _ _ _ _ _ _ _ _ _
   | exact armadalaw17_own.mono _ _
   | exact armadaref07_Compare.mono _ _ _ _ _ _ _ _ _ _ _
   | exact armadaref17_May.mono _ _ _ _ _ _ _
   | exact armadaref17_Same.mono _ _ _
   | exact armadaref17_Small.mono _ _ _
   | exact LeO.none _
   | refine LeO.ite ?_ ?_
   | refine LeO.bind ?_ (fun _ => ?_)
def armadalaw17_MvsDowns.T8 : Bool × List (List Nat × List Nat) := (true, [([], []), ([], []), ([0, 1], [0, 1]), ([2], [2]), ([3], [3]), ([], []), ([5], [5]), ([4, 6], [4, 6]), ([7], [7]), ([8], [8]), ([8], [8]), ([9, 10, 8], [8, 9, 10]), ([11, 8], [8, 11]), ([12, 8], [8, 12]), ([8], [8]), ([14, 8], [8, 14]), ([13, 15, 8, 8], [8, 13, 15]), ([16, 8], [8, 16]), ([8, 17], [8, 17])])
def armadalaw17_MvsDowns.B8 : List Nat := [0, 0, 3, 7, 15, 0, 32, 127, 255, 511, 511, 2047, 4095, 8191, 511, 16895, 65535, 131071, 262143]
theorem armadalaw17_MvsDowns.tab8 : rtab .any (opsOf Tryz.f6 8) = armadalaw17_MvsDowns.T8 := by kernel_rfl
theorem armadalaw17_MvsDowns.bits8 : waitsOk armadalaw17_MvsDowns.T8.2 armadalaw17_MvsDowns.B8 = true := by kernel_rfl
def armadalaw17_MvsDowns.T15 : Bool × List (List Nat × List Nat) := (true, [([], []), ([0], [0]), ([1], [1]), ([1], [1]), ([2, 3, 1], [1, 2, 3]), ([4, 1], [1, 4]), ([5, 1], [1, 5]), ([1], [1]), ([7, 1], [1, 7]), ([6, 8, 1], [1, 6, 8]), ([9, 1, 1], [1, 9]), ([10], [10]), ([10], [10]), ([11, 12, 10], [10, 11, 12]), ([13, 10], [10, 13]), ([14, 10], [10, 14]), ([10], [10]), ([16, 10], [10, 16]), ([15, 17, 10, 10], [10, 15, 17]), ([18, 10], [10, 18]), ([10, 19, 1], [1, 10, 19]), ([1, 20], [1, 20]), ([21, 18, 0, 1, 2, 3, 4, 5, 6, 7, 8, 9, 10, 11, 12, 13, 14, 15, 16, 17, 18, 19, 20, 21], [0, 21])])
def armadalaw17_MvsDowns.B15 : List Nat := [0, 1, 3, 3, 15, 31, 63, 3, 131, 511, 1023, 2047, 2047, 8191, 16383, 32767, 2047, 67583, 262143, 524287, 1048575, 2097151, 4194303]
theorem armadalaw17_MvsDowns.tab15 : rtab .any (opsOf Tryz.f6 15) = armadalaw17_MvsDowns.T15 := by kernel_rfl
theorem armadalaw17_MvsDowns.bits15 : waitsOk armadalaw17_MvsDowns.T15.2 armadalaw17_MvsDowns.B15 = true := by kernel_rfl
set_option maxHeartbeats 8000000 in
set_option maxRecDepth 100000 in
theorem armadalaw17_MvsDowns.calls (k : Nat) (A0 : Option Addr) (c0 : Nat) (l0 : List (S27)) (A1 : Option Addr) (c1 : Nat) (l1 : List (S46)) (a2_0 : ByteArray) (a2_1 : Int) (a2_2 : Int) (a2_3 : Int) (a2_4 : ByteArray) (a2_5 : ByteArray) (r : Bool) (w : World) (hr0 : Kd.C k27 w A0 l0.length l0) (hc0 : l0.length ≤ c0) (hr1 : Kd.C k46 w A1 l1.length l1) (hc1 : l1.length ≤ c1) (hG : GW w) (hT : r = true) (h : armadalaw17_MvsDowns.f k l0 l1 a2_0 a2_1 a2_2 a2_3 a2_4 a2_5 = some r) :
  Calls Tryz.prog 6 #[.slice A0 l0.length c0, .slice A1 l1.length c1, .agg #[.string a2_0, .int .i64 a2_1, .int .i64 a2_2, .int .i64 a2_3, .string a2_4, .string a2_5]] w fun e w' => e = .returned (.bool r) ∧ Below w.heap.size w w' := by
 have hu27 := Tryz.underlying27
 have hu25 := Tryz.underlying25
 have HR0 := Aside0.mk hr0
 have HC0 := Aside0.mk hc0
 clear hr0 hc0
 have HR1 := Aside0.mk hr1
 have HC1 := Aside0.mk hc1
 clear hr1 hc1
 have HGW := Aside0.mk hG
 clear hG
 have HTRU_ := Aside0.mk hT
 clear hT
 have HB := Aside0.mk (Below.refl w.heap.size w)
 have H : ((armadaref17_Small.f k l0 l1).bind fun t102 => (if t102 = true then ((armadaref17_Small.f k (([(⟨a2_0, (⟨a2_1, a2_2, a2_3, a2_4, a2_5⟩ : S25)⟩ : S27)] : List (S27))) ([] : List (S46))).bind fun t106 => (if t106 = true then ((armadaref17_May.f k a2_0 a2_1 a2_2 a2_3 a2_4 a2_5).bind fun t107 => (armadalaw17_MvsDowns.j0 k l0 l1 (!t107) a2_0 a2_1 a2_2 a2_3 a2_4 a2_5)) else (armadalaw17_MvsDowns.j0 k l0 l1 true a2_0 a2_1 a2_2 a2_3 a2_4 a2_5))) else (armadalaw17_MvsDowns.j0 k l0 l1 true a2_0 a2_1 a2_2 a2_3 a2_4 a2_5))) = some r := h
 clear h
 have HC4 := Aside0.mk H
 clear H
 go_enter Tryz.func6, Tryz.ntmps6
 go_upto_region 1 with (first | ((with_reducible refine gate_dst (N := 5) rfl ?_); (try (refine gate_guard (by rfl) ?_; dsimp only)); refine box_event ?hg (N := 5) ?hd (cs := #[.string a2_0, .int .i64 a2_1, .int .i64 a2_2, .int .i64 a2_3, .string a2_4, .string a2_5]) (t := 27) ?hr ?_; (case hd => rfl); (case hg => rfl); (case hr => first | (go_simp; done) | (go_simp; rfl)); intro gb101 hg w5 hbox hb; have BK101 := Aside0.mk (hbox); have GW101 := Aside0.mk ((by rw [hg]; exact (below_size xB) : w.heap.size ≤ gb101)); have GE101 := Aside0.mk ((by rw [hg]; exact (below_size xB) : w.heap.size ≤ gb101)); replace HB := Aside0.mk (below_step xB hb); clear hb hbox hg))
 (try simp only [Act.put, List.setIfInBounds_toArray, List.set_cons_zero, List.set_cons_succ])
 go_cut [27] (fun v27 wc => ∃ (kq : Nat) (x27_3 : Bool), v27 = .bool x27_3 ∧ Aside0 (armadalaw17_MvsDowns.j0 kq l0 l1 x27_3 a2_0 a2_1 a2_2 a2_3 a2_4 a2_5 = some r) ∧ Aside0 (kq ≤ k) ∧ Aside0 (wc.heap[gb101]? = some (.cells #[.string a2_0, .int .i64 a2_1, .int .i64 a2_2, .int .i64 a2_3, .string a2_4, .string a2_5] 27 (0, 0))) ∧ Aside0 (Below w.heap.size w wc))
 case first =>
  have H := HC4.out
  clear HC4
  replace H := xb H
  obtain ⟨t102, A6, H⟩ := H
  by_cases c7 : t102 = true
  ·
   subst c7
   rw [if_pos rfl] at H
   obtain ⟨y103, hy103⟩ : ∃ y_ : List (S27), y_ = (([(⟨a2_0, (⟨a2_1, a2_2, a2_3, a2_4, a2_5⟩ : S25)⟩ : S27)] : List (S27))) := ⟨_, rfl⟩
   replace H : ((armadaref17_Small.f k y103 ([] : List (S46))).bind fun t106 => (if t106 = true then ((armadaref17_May.f k a2_0 a2_1 a2_2 a2_3 a2_4 a2_5).bind fun t107 => (armadalaw17_MvsDowns.j0 k l0 l1 (!t107) a2_0 a2_1 a2_2 a2_3 a2_4 a2_5)) else (armadalaw17_MvsDowns.j0 k l0 l1 true a2_0 a2_1 a2_2 a2_3 a2_4 a2_5))) = some r := by first | (rw [hy103]; with_reducible exact H) | (have H2_ := (Option.bind_some _ _).symm.trans H; rw [hy103]; with_reducible exact H2_) | (have H2_ := (Option.bind_some _ _).symm.trans H; with_reducible exact H2_) | with_reducible exact H | (rw [hy103]; exact H) | exact H
   have Ny103 := Aside0.mk hy103
   clear hy103
   replace H := xb H
   obtain ⟨t106, A8, H⟩ := H
   by_cases c9 : t106 = true
   ·
    subst c9
    rw [if_pos rfl] at H
    replace H := xb H
    obtain ⟨t107, A10, H⟩ := H
    have H' := Aside0.mk H
    clear H
    go_wp2_with (first | ((with_reducible refine gate_callee (f := 11) rfl ?_); refine goesL_ (some 15) rfl rfl Tryz.func11 (by kernel_rfl) rfl #[.slice A0 l0.length c0, .slice A1 l1.length c1] rfl xS ?_; (with_reducible refine (armadaref17_Small.calls k _ _ l0 _ _ l1 true _ ?side1 ?side2 ?side3 ?side4 A6.out).mono ?_); (case side1 => repeat (first | exact (Kd.C_below HR0.out HB.out) | (with_reducible refine Kd.C_alloc ?_ _) | (with_reducible refine Kd.C_drewN ?_ _) | (with_reducible refine Kd.C_drew ?_))); (case side2 => exact HC0.out); (case side3 => repeat (first | exact (Kd.C_below HR1.out HB.out) | (with_reducible refine Kd.C_alloc ?_ _) | (with_reducible refine Kd.C_drewN ?_ _) | (with_reducible refine Kd.C_drew ?_))); (case side4 => exact HC1.out); rintro e w11 ⟨rfl, hb⟩; refine ⟨_, rfl, ?_⟩; replace BK101 := Aside0.mk (blk_below (g := gb101) (o := .cells #[.string a2_0, .int .i64 a2_1, .int .i64 a2_2, .int .i64 a2_3, .string a2_4, .string a2_5] 27 (0, 0)) xK hb); replace HB := Aside0.mk (below_step xB hb); (try clear hb); (try clear hb2); (try clear hk); (try clear hi); obtain ⟨hcz12_0, hcz12_1, hcz12_2, hcz12_3, hcz12_4, hcz12_5⟩ := xC6 BK101.out; obtain ⟨hfz12_0, hfz12_1, hfz12_2, hfz12_3, hfz12_4, hfz12_5⟩ := xF6 BK101.out) | ((with_reducible refine gate_dst (N := 19) rfl ?_); (try (refine gate_guard (by rfl) ?_; dsimp only)); refine Kd.R_lit k27 _ 27 ?hg (N := 19) ?hd (xs := ([(⟨a2_0, (⟨a2_1, a2_2, a2_3, a2_4, a2_5⟩ : S25)⟩ : S27)] : List (S27))) (inner := [.string a2_0, .int .i64 a2_1, .int .i64 a2_2, .int .i64 a2_3, .string a2_4, .string a2_5]) (ok := fun _ => True) (okp := fun _ => True) ?hr ?hp (fun _ hk => hk) trivial (Below.refl _ _) (Nat.le_refl _) (by simp) ?_; (case hd => rfl); (case hg => rfl); (case hr => first | (go_simp; done) | (go_simp; rfl)); (case hp => exact (Reps.c6 (show Kd.M k27 _ _ _ (⟨a2_0, (⟨a2_1, a2_2, a2_3, a2_4, a2_5⟩ : S25)⟩ : S27) [.string a2_0, .int .i64 a2_1, .int .i64 a2_2, .int .i64 a2_3, .string a2_4, .string a2_5] from (k27_mkM _ _ _ (⟨a2_0, (⟨a2_1, a2_2, a2_3, a2_4, a2_5⟩ : S25)⟩ : S27) )) (Reps.none _ _))); intro v104 w13 ho14 hb hg_ hnew_; clear hg_ hnew_; (first | rw [← Ny103.out] at ho14 | (simp only [Int.reduceToNat] at ho14; rw [← Ny103.out] at ho14)); have HO105 := Aside0.mk (Kd.R_lower (Kd.R_newB ho14 (g := gb101) (o := .cells #[.string a2_0, .int .i64 a2_1, .int .i64 a2_2, .int .i64 a2_3, .string a2_4, .string a2_5] 27 (0, 0)) xK) (below_size xB)); replace BK101 := Aside0.mk (blk_below (g := gb101) (o := .cells #[.string a2_0, .int .i64 a2_1, .int .i64 a2_2, .int .i64 a2_3, .string a2_4, .string a2_5] 27 (0, 0)) xK hb); replace HB := Aside0.mk (below_step xB hb); clear hb ho14; obtain ⟨Ao15, co15, eo15⟩ := Kd.R_slice HO105.out; subst eo15) | (go_at_call 11; (refine (armadaref17_Small.calls k _ _ y103 _ _ ([] : List (S46)) true _ ?side1 ?side2 ?side3 ?side4 A8.out).mono ?_); (case side1 => repeat (first | exact (Kd.R_reads' HO105.out).2.2 | (with_reducible refine Kd.C_alloc ?_ _) | (with_reducible refine Kd.C_drewN ?_ _) | (with_reducible refine Kd.C_drew ?_))); (case side2 => exact (Kd.R_reads' HO105.out).2.1); (case side3 => exact Kd.C_nil _ _); (case side4 => exact Nat.le_refl _); rintro e w16 ⟨rfl, hb⟩; replace HO105 := Aside0.mk (Kd.R_below (by (with_reducible repeat (first | apply Kd.R_alloc | apply Kd.R_drewN | apply Kd.R_drew)); exact HO105.out) hb); replace BK101 := Aside0.mk (blk_below (g := gb101) (o := .cells #[.string a2_0, .int .i64 a2_1, .int .i64 a2_2, .int .i64 a2_3, .string a2_4, .string a2_5] 27 (0, 0)) xK hb); replace HB := Aside0.mk (below_step xB hb); (try clear hb); (try clear hb2); (try clear hk); (try clear hi); obtain ⟨hcz17_0, hcz17_1, hcz17_2, hcz17_3, hcz17_4, hcz17_5⟩ := xC6 BK101.out; obtain ⟨hfz17_0, hfz17_1, hfz17_2, hfz17_3, hfz17_4, hfz17_5⟩ := xF6 BK101.out) | (go_at_call 25; (with_reducible refine (armadaref17_May.calls k a2_0 a2_1 a2_2 a2_3 a2_4 a2_5 t107 _ A10.out).mono ?_); rintro e w18 ⟨rfl, hb⟩; replace HO105 := Aside0.mk (Kd.R_below (by (with_reducible repeat (first | apply Kd.R_alloc | apply Kd.R_drewN | apply Kd.R_drew)); exact HO105.out) hb); replace BK101 := Aside0.mk (blk_below (g := gb101) (o := .cells #[.string a2_0, .int .i64 a2_1, .int .i64 a2_2, .int .i64 a2_3, .string a2_4, .string a2_5] 27 (0, 0)) xK hb); replace HB := Aside0.mk (below_step xB hb); (try clear hb); (try clear hb2); (try clear hk); (try clear hi)))
    go_meet
    case rel => exact ⟨_, (!t107), xR, H', ⟨by first | omega | exact Nat.le_refl _⟩, ⟨by (with_reducible repeat (first | refine blk_drewN ?_ _ | refine blk_drew ?_ | refine blk_alloc ?_ _)); exact BK101.out⟩, ⟨xB⟩⟩
   replace c9 := Bool.eq_false_iff.mpr c9
   subst c9
   rw [if_neg (show ¬ (false = true) by decide)] at H
   have H' := Aside0.mk H
   clear H
   go_wp2_with (first | ((with_reducible refine gate_callee (f := 11) rfl ?_); refine goesL_ (some 15) rfl rfl Tryz.func11 (by kernel_rfl) rfl #[.slice A0 l0.length c0, .slice A1 l1.length c1] rfl xS ?_; (with_reducible refine (armadaref17_Small.calls k _ _ l0 _ _ l1 true _ ?side1 ?side2 ?side3 ?side4 A6.out).mono ?_); (case side1 => repeat (first | exact (Kd.C_below HR0.out HB.out) | (with_reducible refine Kd.C_alloc ?_ _) | (with_reducible refine Kd.C_drewN ?_ _) | (with_reducible refine Kd.C_drew ?_))); (case side2 => exact HC0.out); (case side3 => repeat (first | exact (Kd.C_below HR1.out HB.out) | (with_reducible refine Kd.C_alloc ?_ _) | (with_reducible refine Kd.C_drewN ?_ _) | (with_reducible refine Kd.C_drew ?_))); (case side4 => exact HC1.out); rintro e w19 ⟨rfl, hb⟩; refine ⟨_, rfl, ?_⟩; replace BK101 := Aside0.mk (blk_below (g := gb101) (o := .cells #[.string a2_0, .int .i64 a2_1, .int .i64 a2_2, .int .i64 a2_3, .string a2_4, .string a2_5] 27 (0, 0)) xK hb); replace HB := Aside0.mk (below_step xB hb); (try clear hb); (try clear hb2); (try clear hk); (try clear hi); obtain ⟨hcz20_0, hcz20_1, hcz20_2, hcz20_3, hcz20_4, hcz20_5⟩ := xC6 BK101.out; obtain ⟨hfz20_0, hfz20_1, hfz20_2, hfz20_3, hfz20_4, hfz20_5⟩ := xF6 BK101.out) | ((with_reducible refine gate_dst (N := 19) rfl ?_); (try (refine gate_guard (by rfl) ?_; dsimp only)); refine Kd.R_lit k27 _ 27 ?hg (N := 19) ?hd (xs := ([(⟨a2_0, (⟨a2_1, a2_2, a2_3, a2_4, a2_5⟩ : S25)⟩ : S27)] : List (S27))) (inner := [.string a2_0, .int .i64 a2_1, .int .i64 a2_2, .int .i64 a2_3, .string a2_4, .string a2_5]) (ok := fun _ => True) (okp := fun _ => True) ?hr ?hp (fun _ hk => hk) trivial (Below.refl _ _) (Nat.le_refl _) (by simp) ?_; (case hd => rfl); (case hg => rfl); (case hr => first | (go_simp; done) | (go_simp; rfl)); (case hp => exact (Reps.c6 (show Kd.M k27 _ _ _ (⟨a2_0, (⟨a2_1, a2_2, a2_3, a2_4, a2_5⟩ : S25)⟩ : S27) [.string a2_0, .int .i64 a2_1, .int .i64 a2_2, .int .i64 a2_3, .string a2_4, .string a2_5] from (k27_mkM _ _ _ (⟨a2_0, (⟨a2_1, a2_2, a2_3, a2_4, a2_5⟩ : S25)⟩ : S27) )) (Reps.none _ _))); intro v104 w21 ho22 hb hg_ hnew_; clear hg_ hnew_; (first | rw [← Ny103.out] at ho22 | (simp only [Int.reduceToNat] at ho22; rw [← Ny103.out] at ho22)); have HO105 := Aside0.mk (Kd.R_lower (Kd.R_newB ho22 (g := gb101) (o := .cells #[.string a2_0, .int .i64 a2_1, .int .i64 a2_2, .int .i64 a2_3, .string a2_4, .string a2_5] 27 (0, 0)) xK) (below_size xB)); replace BK101 := Aside0.mk (blk_below (g := gb101) (o := .cells #[.string a2_0, .int .i64 a2_1, .int .i64 a2_2, .int .i64 a2_3, .string a2_4, .string a2_5] 27 (0, 0)) xK hb); replace HB := Aside0.mk (below_step xB hb); clear hb ho22; obtain ⟨Ao23, co23, eo23⟩ := Kd.R_slice HO105.out; subst eo23) | (go_at_call 11; (refine (armadaref17_Small.calls k _ _ y103 _ _ ([] : List (S46)) false _ ?side1 ?side2 ?side3 ?side4 A8.out).mono ?_); (case side1 => repeat (first | exact (Kd.R_reads' HO105.out).2.2 | (with_reducible refine Kd.C_alloc ?_ _) | (with_reducible refine Kd.C_drewN ?_ _) | (with_reducible refine Kd.C_drew ?_))); (case side2 => exact (Kd.R_reads' HO105.out).2.1); (case side3 => exact Kd.C_nil _ _); (case side4 => exact Nat.le_refl _); rintro e w24 ⟨rfl, hb⟩; replace HO105 := Aside0.mk (Kd.R_below (by (with_reducible repeat (first | apply Kd.R_alloc | apply Kd.R_drewN | apply Kd.R_drew)); exact HO105.out) hb); replace BK101 := Aside0.mk (blk_below (g := gb101) (o := .cells #[.string a2_0, .int .i64 a2_1, .int .i64 a2_2, .int .i64 a2_3, .string a2_4, .string a2_5] 27 (0, 0)) xK hb); replace HB := Aside0.mk (below_step xB hb); (try clear hb); (try clear hb2); (try clear hk); (try clear hi)))
   go_meet
   case rel => exact ⟨_, (true), xR, H', ⟨by first | omega | exact Nat.le_refl _⟩, ⟨by (with_reducible repeat (first | refine blk_drewN ?_ _ | refine blk_drew ?_ | refine blk_alloc ?_ _)); exact BK101.out⟩, ⟨xB⟩⟩
  replace c7 := Bool.eq_false_iff.mpr c7
  subst c7
  rw [if_neg (show ¬ (false = true) by decide)] at H
  have H' := Aside0.mk H
  clear H
  go_wp2_with (first | ((with_reducible refine gate_callee (f := 11) rfl ?_); refine goesL_ (some 15) rfl rfl Tryz.func11 (by kernel_rfl) rfl #[.slice A0 l0.length c0, .slice A1 l1.length c1] rfl xS ?_; (with_reducible refine (armadaref17_Small.calls k _ _ l0 _ _ l1 false _ ?side1 ?side2 ?side3 ?side4 A6.out).mono ?_); (case side1 => repeat (first | exact (Kd.C_below HR0.out HB.out) | (with_reducible refine Kd.C_alloc ?_ _) | (with_reducible refine Kd.C_drewN ?_ _) | (with_reducible refine Kd.C_drew ?_))); (case side2 => exact HC0.out); (case side3 => repeat (first | exact (Kd.C_below HR1.out HB.out) | (with_reducible refine Kd.C_alloc ?_ _) | (with_reducible refine Kd.C_drewN ?_ _) | (with_reducible refine Kd.C_drew ?_))); (case side4 => exact HC1.out); rintro e w25 ⟨rfl, hb⟩; refine ⟨_, rfl, ?_⟩; replace BK101 := Aside0.mk (blk_below (g := gb101) (o := .cells #[.string a2_0, .int .i64 a2_1, .int .i64 a2_2, .int .i64 a2_3, .string a2_4, .string a2_5] 27 (0, 0)) xK hb); replace HB := Aside0.mk (below_step xB hb); (try clear hb); (try clear hb2); (try clear hk); (try clear hi)))
  go_meet
  case rel => exact ⟨_, (true), xR, H', ⟨by first | omega | exact Nat.le_refl _⟩, ⟨by (with_reducible repeat (first | refine blk_drewN ?_ _ | refine blk_drew ?_ | refine blk_alloc ?_ _)); exact BK101.out⟩, ⟨xB⟩⟩
 case rest =>
  clear HC4
  try clear c1
  try clear p2
  try clear c6
  try clear c7
  try clear c9
  try clear c11
  try clear hcz12_0
  try clear hcz12_1
  try clear hcz12_2
  try clear hcz12_3
  try clear hcz12_4
  try clear hcz12_5
  try clear hcz17_0
  try clear hcz17_1
  try clear hcz17_2
  try clear hcz17_3
  try clear hcz17_4
  try clear hcz17_5
  try clear hcz20_0
  try clear hcz20_1
  try clear hcz20_2
  try clear hcz20_3
  try clear hcz20_4
  try clear hcz20_5
  try clear hfz12_0
  try clear hfz12_1
  try clear hfz12_2
  try clear hfz12_3
  try clear hfz12_4
  try clear hfz12_5
  try clear hfz17_0
  try clear hfz17_1
  try clear hfz17_2
  try clear hfz17_3
  try clear hfz17_4
  try clear hfz17_5
  try clear hfz20_0
  try clear hfz20_1
  try clear hfz20_2
  try clear hfz20_3
  try clear hfz20_4
  try clear hfz20_5
  obtain ⟨kq, x27_3, rfl, HA, HJ3, BK101, HB⟩ := hcut
  cases kq with
  | zero => exact absurd HA.out (by simp [armadalaw17_MvsDowns.j0])
  | succ kj3 =>
   have H := HA.out
   clear HA
   simp only [armadalaw17_MvsDowns.j0] at H
   by_cases c26 : x27_3 = true
   ·
    subst c26
    rw [if_pos rfl] at H
    replace H := xb H
    obtain ⟨t108, A27, H⟩ := H
    obtain rfl := Option.some.inj H
    go_wp2_with (first | ((with_reducible refine gate_callee (f := 12) rfl ?_); refine goesL_ (some 28) rfl rfl Tryz.func12 (by kernel_rfl) rfl #[] rfl xS ?_; (with_reducible refine (armadalaw17_live.calls  t108 _ ?side1 ?side2 A27.out).mono ?_); (case side1 => exact GW.below HGW.out xB); (case side2 => exact HTRU_.out); rintro e w28 ⟨rfl, hb⟩; refine ⟨_, rfl, ?_⟩; replace BK101 := Aside0.mk (blk_below (g := gb101) (o := .cells #[.string a2_0, .int .i64 a2_1, .int .i64 a2_2, .int .i64 a2_3, .string a2_4, .string a2_5] 27 (0, 0)) xK hb); replace HB := Aside0.mk (below_step xB hb); (try clear hb); (try clear hb2); (try clear hk); (try clear hi)))
    go_ret
    exact ⟨by first | rfl | (simp [errW_none, errW_some] <;> rfl) | (simp [*, errW_none, errW_some] <;> rfl) | (simp [isEmpty_bne]; done), xB⟩
   replace c26 := Bool.eq_false_iff.mpr c26
   subst c26
   rw [if_neg (show ¬ (false = true) by decide)] at H
   replace H := xb H
   obtain ⟨t109, A29, H⟩ := H
   replace H := xb H
   obtain ⟨t112, A30, H⟩ := H
   replace H := xb H
   obtain ⟨t115, A31, H⟩ := H
   replace H := xb H
   obtain ⟨t118, A32, H⟩ := H
   have H' := Aside0.mk H
   clear H
   try go_wp2
   have n0_ := Aside0.mk (blk_drew BK101.out)
   have n1_ := Aside0.mk (below_drew1 HB.out)
   clear BK101
   clear HB
   have BK101 := n0_
   have HB := n1_
   clear n0_ n1_
   refine start_ (n := 6) (S := fun w' => w'.cell? ⟨gb101, 0, none⟩ = some (.string a2_0) ∧ w'.cell? ⟨gb101, 1, none⟩ = some (.int .i64 a2_1) ∧ w'.cell? ⟨gb101, 2, none⟩ = some (.int .i64 a2_2) ∧ w'.cell? ⟨gb101, 3, none⟩ = some (.int .i64 a2_3) ∧ w'.cell? ⟨gb101, 4, none⟩ = some (.string a2_4) ∧ w'.cell? ⟨gb101, 5, none⟩ = some (.string a2_5)) (ds := []) #[false, false, false, false, false, false] (by kernel_rfl) rfl rfl ⟨(blk_cell BK101.out 0).trans rfl, (blk_cell BK101.out 1).trans rfl, (blk_cell BK101.out 2).trans rfl, (blk_cell BK101.out 3).trans rfl, (blk_cell BK101.out 4).trans rfl, (blk_cell BK101.out 5).trans rfl⟩ (fun hHeld => ?_)
   generalize wc.drew = w33 at BK101 HB hHeld ⊢
   refine pure_ (i := 0) (N := some 29) (v := ?_) (a' := ?_) #[true, false, false, false, false, false] rfl rfl (by kernel_rfl) (fun _ _ _ h => h) (Or.inl ⟨by rfl, ?_⟩) ?_ ?_
   rotate_left
   ·
    intro w'
    go_simp
    with_reducible rfl
   rotate_left
   ·
    simp only [Act.put, List.setIfInBounds_toArray, List.set_cons_zero, List.set_cons_succ, i64_w, i32_w]
    rfl
   refine pure_ (i := 1) (N := some 30) (v := ?_) (a' := ?_) #[true, true, false, false, false, false] rfl rfl (by kernel_rfl) (fun _ _ _ h => h) (Or.inl ⟨by rfl, ?_⟩) ?_ ?_
   rotate_left
   ·
    intro w'
    go_simp
    with_reducible rfl
   rotate_left
   ·
    simp only [Act.put, List.setIfInBounds_toArray, List.set_cons_zero, List.set_cons_succ, i64_w, i32_w]
    rfl
   refine take_ (i := 3) (N := some 32) (v := ?_) (a' := ?_) #[true, true, false, true, false, false] rfl rfl (by kernel_rfl) (fun _ _ _ h => h) (Or.inl ⟨by rfl, ?_⟩) hHeld ?_ ?_
   rotate_left
   ·
    rintro w' ⟨s0, s1, s2, s3, s4, s5⟩
    go_simp
    with_reducible rfl
   rotate_left
   ·
    simp only [Act.put, List.setIfInBounds_toArray, List.set_cons_zero, List.set_cons_succ, i64_w, i32_w]
    rfl
   refine one_ (i := 2) (N := some 31) #[true, true, true, true, false, false] rfl rfl (by kernel_rfl) (by decide) (fun K hK => ?_)
   refine goes_ Tryz.func13 (by kernel_rfl) rfl #[.slice A1 l1.length c1] (by rfl) rfl rfl xS ?_
   with_reducible refine (armadalaw17_own.calls kj3 (fun k_ => k_ < w.heap.size) _ _ l1 t109 _ ?side1 A29.out).mono ?_
   (case side1 => exact Kd.V_mk HC1.out (Kd.F_below (Kd.C_F k46_heap HR1.out) xB))
   rintro e w34 ⟨v110, rfl, ho0, hb⟩
   refine ⟨_, rfl, ?_⟩
   have n0_ := Aside0.mk (Kd.N_lower (Kd.N_mono (ok' := fun k_ => k_ ≠ gb101) ho0 (fun k_ hk_ => Or.elim hk_ (fun hs_ => fun e_ => Nat.not_le.2 hs_ (by rw [e_]; exact GW101.out)) (fun hn_ => (Kd.freshB (g := gb101) (o := .cells #[.string a2_0, .int .i64 a2_1, .int .i64 a2_2, .int .i64 a2_3, .string a2_4, .string a2_5] 27 (0, 0)) xK k_ hn_)))) (below_size xB))
   have n1_ := Aside0.mk (blk_below (g := gb101) (o := .cells #[.string a2_0, .int .i64 a2_1, .int .i64 a2_2, .int .i64 a2_3, .string a2_4, .string a2_5] 27 (0, 0)) xK hb)
   have n2_ := Aside0.mk (below_step xB hb)
   clear BK101
   clear HB
   have HO111 := n0_
   have BK101 := n1_
   have HB := n2_
   clear n0_ n1_ n2_
   (try clear hb)
   (try clear hb2)
   (try clear hk)
   (try clear hi)
   (try clear ho0)
   obtain ⟨Ao35, co35, eo35⟩ := Kd.N_slice HO111.out
   (first | subst eo35 | (injection eo35 with f1_ f2_ f3_; have f4_ := f1_.symm; have f5_ := f3_.symm; clear f1_ f2_ f3_; subst f4_; subst f5_))
   refine hK.out _ _ ⟨(blk_cell BK101.out 0).trans rfl, (blk_cell BK101.out 1).trans rfl, (blk_cell BK101.out 2).trans rfl, (blk_cell BK101.out 3).trans rfl, (blk_cell BK101.out 4).trans rfl, (blk_cell BK101.out 5).trans rfl⟩ (fun hHeld => ?_)
   clear hK K
   refine norm_ (a' := ?_) ?_ ?_
   rotate_left
   ·
    show Act.put _ (some 31) _ = _
    simp only [Act.put, List.setIfInBounds_toArray, List.set_cons_zero, List.set_cons_succ, i64_w, i32_w]
    rfl
   refine one_ (i := 4) (N := some 33) #[true, true, true, true, true, false] rfl rfl (by kernel_rfl) (by decide) (fun K hK => ?_)
   refine goes_ Tryz.func21 (by kernel_rfl) rfl #[.slice A0 l0.length c0, .slice Ao35 t109.length co35, .agg #[.string a2_0, .int .i64 a2_1, .int .i64 a2_2, .int .i64 a2_3, .string a2_4, .string a2_5]] (by rfl) rfl rfl xS ?_
   with_reducible refine (mvs_Downgrade.calls _ _ l0 _ _ t109 a2_0 a2_1 a2_2 a2_3 a2_4 a2_5 t112 _ ?side1 ?side2 ?side3 ?side4 ?side5 A30.out).mono ?_
   (case side1 => repeat (first | exact (Kd.C_below HR0.out HB.out) | (with_reducible refine Kd.C_alloc ?_ _) | (with_reducible refine Kd.C_drewN ?_ _) | (with_reducible refine Kd.C_drew ?_)))
   (case side2 => exact HC0.out)
   (case side3 => repeat (first | exact (Kd.N_reads' HO111.out).2.2 | (with_reducible refine Kd.C_alloc ?_ _) | (with_reducible refine Kd.C_drewN ?_ _) | (with_reducible refine Kd.C_drew ?_)))
   (case side4 => exact (Kd.N_reads' HO111.out).2.1)
   (case side5 => exact GW.below HGW.out xB)
   rintro e w36 ⟨v113, rfl, ho0, hb⟩
   refine ⟨_, rfl, ?_⟩
   have n0_ := Aside0.mk (Kd.N_elder' (by (with_reducible repeat (first | apply Kd.N_alloc | apply Kd.N_drewN | apply Kd.N_drew)); exact HO111.out) (Kd.R_base ho0) hb)
   have n1_ := Aside0.mk (Kd.R_lower (Kd.R_newB ho0 (g := gb101) (o := .cells #[.string a2_0, .int .i64 a2_1, .int .i64 a2_2, .int .i64 a2_3, .string a2_4, .string a2_5] 27 (0, 0)) xK) (below_size xB))
   have n2_ := Aside0.mk (blk_below (g := gb101) (o := .cells #[.string a2_0, .int .i64 a2_1, .int .i64 a2_2, .int .i64 a2_3, .string a2_4, .string a2_5] 27 (0, 0)) xK hb)
   have n3_ := Aside0.mk (below_step xB hb)
   clear HO111
   clear BK101
   clear HB
   have HO111 := n0_
   have HO114 := n1_
   have BK101 := n2_
   have HB := n3_
   clear n0_ n1_ n2_ n3_
   (try clear hb)
   (try clear hb2)
   (try clear hk)
   (try clear hi)
   (try clear ho0)
   refine hK.out _ _ ⟨(blk_cell BK101.out 0).trans rfl, (blk_cell BK101.out 1).trans rfl, (blk_cell BK101.out 2).trans rfl, (blk_cell BK101.out 3).trans rfl, (blk_cell BK101.out 4).trans rfl, (blk_cell BK101.out 5).trans rfl⟩ (fun hHeld => ?_)
   clear hK K
   refine norm_ (a' := ?_) ?_ ?_
   rotate_left
   ·
    show Act.put _ (some 33) _ = _
    simp only [Act.put, List.setIfInBounds_toArray, List.set_cons_zero, List.set_cons_succ, i64_w, i32_w]
    rfl
   refine pure_ (i := 5) (N := some 7) (v := ?_) (a' := ?_) #[true, true, true, true, true, true] rfl rfl (by kernel_rfl) (fun _ _ _ h => h) (Or.inl ⟨by rfl, ?_⟩) ?_ ?_
   rotate_left
   ·
    intro w'
    go_simp
    with_reducible rfl
   rotate_left
   ·
    simp only [Act.put, List.setIfInBounds_toArray, List.set_cons_zero, List.set_cons_succ, i64_w, i32_w]
    rfl
   refine done_ (by kernel_rfl) ?_
   try go_wp2_with (first | ((with_reducible refine gate_callee (f := 13) rfl ?_); refine goesL_ (some 36) rfl rfl Tryz.func13 (by kernel_rfl) rfl #[.slice A1 l1.length c1] rfl xS ?_; (with_reducible refine (armadalaw17_own.calls kj3 (fun k_ => k_ < w.heap.size) _ _ l1 t115 _ ?side1 A31.out).mono ?_); (case side1 => exact Kd.V_mk HC1.out (Kd.F_below (Kd.C_F k46_heap HR1.out) xB)); rintro e w37 ⟨v116, rfl, ho0, hb⟩; refine ⟨_, rfl, ?_⟩; have HO117 := Aside0.mk (Kd.N_lower (Kd.N_mono (ok' := fun k_ => some k_ ≠ (.slice Ao35 t109.length co35 : Value).ownBlock ∧ some k_ ≠ (v113 : Value).ownBlock ∧ k_ ≠ gb101) ho0 (fun k_ hk_ => ⟨Or.elim hk_ (fun hs_ => fun e_ => Nat.not_le.2 hs_ (Kd.N_base HO111.out k_ e_.symm)) (fun hn_ => (Kd.fresh' (Kd.N_lt (by (with_reducible repeat (first | apply Kd.N_alloc | apply Kd.N_drewN | apply Kd.N_drew)); exact HO111.out)) k_ hn_)), Or.elim hk_ (fun hs_ => fun e_ => Nat.not_le.2 hs_ (Kd.R_base HO114.out k_ e_.symm)) (fun hn_ => (Kd.fresh' (Kd.R_lt (by (with_reducible repeat (first | apply Kd.R_alloc | apply Kd.R_drewN | apply Kd.R_drew)); exact HO114.out)) k_ hn_)), Or.elim hk_ (fun hs_ => fun e_ => Nat.not_le.2 hs_ (by rw [e_]; exact GW101.out)) (fun hn_ => (Kd.freshB (g := gb101) (o := .cells #[.string a2_0, .int .i64 a2_1, .int .i64 a2_2, .int .i64 a2_3, .string a2_4, .string a2_5] 27 (0, 0)) xK k_ hn_))⟩)) (below_size xB)); replace HO111 := Aside0.mk (Kd.N_elder' (by (with_reducible repeat (first | apply Kd.N_alloc | apply Kd.N_drewN | apply Kd.N_drew)); exact HO111.out) (Kd.N_base ho0) hb); replace HO114 := Aside0.mk (Kd.R_below (by (with_reducible repeat (first | apply Kd.R_alloc | apply Kd.R_drewN | apply Kd.R_drew)); exact HO114.out) hb); replace BK101 := Aside0.mk (blk_below (g := gb101) (o := .cells #[.string a2_0, .int .i64 a2_1, .int .i64 a2_2, .int .i64 a2_3, .string a2_4, .string a2_5] 27 (0, 0)) xK hb); replace HB := Aside0.mk (below_step xB hb); (try clear hb); (try clear hb2); (try clear hk); (try clear hi); (try clear ho0); obtain ⟨Ao38, co38, eo38⟩ := Kd.R_slice HO114.out; subst eo38; obtain ⟨Ao39, co39, eo39⟩ := Kd.N_slice HO117.out; subst eo39) | ((with_reducible refine gate_callee (f := 17) rfl ?_); refine goesL_ (some 37) rfl rfl Tryz.func17 (by kernel_rfl) rfl #[.slice Ao38 t112.length co38, .slice Ao39 t115.length co39] rfl xS ?_; (with_reducible refine (mvs_List.calls _ _ t112 _ _ t115 t118 _ ?side1 ?side2 ?side3 ?side4 ?side5 A32.out).mono ?_); (case side1 => repeat (first | exact (Kd.R_reads' HO114.out).2.2 | (with_reducible refine Kd.C_alloc ?_ _) | (with_reducible refine Kd.C_drewN ?_ _) | (with_reducible refine Kd.C_drew ?_))); (case side2 => exact (Kd.R_reads' HO114.out).2.1); (case side3 => repeat (first | exact (Kd.N_reads' HO117.out).2.2 | (with_reducible refine Kd.C_alloc ?_ _) | (with_reducible refine Kd.C_drewN ?_ _) | (with_reducible refine Kd.C_drew ?_))); (case side4 => exact (Kd.N_reads' HO117.out).2.1); (case side5 => exact GW.below HGW.out xB); rintro e w40 ⟨v119, rfl, ho0, hb⟩; refine ⟨_, rfl, ?_⟩; replace HO111 := Aside0.mk (Kd.N_elder' (by (with_reducible repeat (first | apply Kd.N_alloc | apply Kd.N_drewN | apply Kd.N_drew)); exact HO111.out) (Kd.R_base ho0) hb); replace HO117 := Aside0.mk (Kd.N_elder' (by (with_reducible repeat (first | apply Kd.N_alloc | apply Kd.N_drewN | apply Kd.N_drew)); exact HO117.out) (Kd.R_base ho0) hb); have HO120 := Aside0.mk (Kd.R_lower (Kd.R_newB (Kd.R_new' ho0 (Kd.R_lt (by (with_reducible repeat (first | apply Kd.R_alloc | apply Kd.R_drewN | apply Kd.R_drew)); exact HO114.out))) (g := gb101) (o := .cells #[.string a2_0, .int .i64 a2_1, .int .i64 a2_2, .int .i64 a2_3, .string a2_4, .string a2_5] 27 (0, 0)) xK) (below_size xB)); replace HO114 := Aside0.mk (Kd.R_elder' (by (with_reducible repeat (first | apply Kd.R_alloc | apply Kd.R_drewN | apply Kd.R_drew)); exact HO114.out) (Kd.R_base ho0) hb); replace BK101 := Aside0.mk (blk_below (g := gb101) (o := .cells #[.string a2_0, .int .i64 a2_1, .int .i64 a2_2, .int .i64 a2_3, .string a2_4, .string a2_5] 27 (0, 0)) xK hb); replace HB := Aside0.mk (below_step xB hb); (try clear hb); (try clear hb2); (try clear hk); (try clear hi); (try clear ho0)))
   go_loopg [9] kj3 (fun kq v9 w' => ∃ (x9_2 : Int), v9 = .int .i64 x9_2 ∧ Aside0 (armadalaw17_MvsDowns.l0 kq l0 l1 t112 t118 x9_2 a2_0 a2_1 a2_2 a2_3 a2_4 a2_5 = some r) ∧ Aside0 (kq ≤ kj3) ∧ Aside0 (Kd.R k27 27 w' w.heap.size (fun k_ => some k_ ≠ (v119 : Value).ownBlock ∧ k_ ≠ gb101) (.slice Ao38 t112.length co38) t112) ∧ Aside0 (Kd.R k27 27 w' w.heap.size (fun k_ => some k_ ≠ ((.slice Ao38 t112.length co38) : Value).ownBlock ∧ k_ ≠ gb101) v119 t118) ∧ Aside0 (w'.heap[gb101]? = some (.cells #[.string a2_0, .int .i64 a2_1, .int .i64 a2_2, .int .i64 a2_3, .string a2_4, .string a2_5] 27 (0, 0))) ∧ Aside0 (Below w.heap.size w w'))
   case atStart => exact ⟨(0), xR, H', ⟨Nat.le_refl _⟩, ⟨by (with_reducible repeat (first | apply Kd.R_alloc | apply Kd.R_drewN | apply Kd.R_drew)); exact Kd.R_mono HO114.out (fun _ hk => ⟨hk.2, hk.1.2⟩)⟩, ⟨by (with_reducible repeat (first | apply Kd.R_alloc | apply Kd.R_drewN | apply Kd.R_drew)); exact Kd.R_mono HO120.out (fun _ hk => ⟨hk.1.2, hk.2⟩)⟩, ⟨by (with_reducible repeat (first | refine blk_drewN ?_ _ | refine blk_drew ?_ | refine blk_alloc ?_ _)); exact BK101.out⟩, ⟨xB⟩⟩
   case round =>
    clear H'
    try clear c1
    try clear c2
    try clear p2
    try clear c6
    try clear c7
    try clear c9
    try clear c11
    try clear c12
    try clear c13
    try clear c17
    try clear c21
    try clear c26
    try clear hcz12_0
    try clear hcz12_1
    try clear hcz12_2
    try clear hcz12_3
    try clear hcz12_4
    try clear hcz12_5
    try clear hcz17_0
    try clear hcz17_1
    try clear hcz17_2
    try clear hcz17_3
    try clear hcz17_4
    try clear hcz17_5
    try clear hcz20_0
    try clear hcz20_1
    try clear hcz20_2
    try clear hcz20_3
    try clear hcz20_4
    try clear hcz20_5
    try clear hfz12_0
    try clear hfz12_1
    try clear hfz12_2
    try clear hfz12_3
    try clear hfz12_4
    try clear hfz12_5
    try clear hfz17_0
    try clear hfz17_1
    try clear hfz17_2
    try clear hfz17_3
    try clear hfz17_4
    try clear hfz17_5
    try clear hfz20_0
    try clear hfz20_1
    try clear hfz20_2
    try clear hfz20_3
    try clear hfz20_4
    try clear hfz20_5
    try clear p2
    obtain ⟨x9_2, rfl, HA, HK2, HO_7, HO_8, BK101, HB⟩ := hrel
    cases gk with
    | zero => exact absurd HA.out (by simp [armadalaw17_MvsDowns.l0])
    | succ k2 =>
     have H := HA.out
     clear HA
     simp only [armadalaw17_MvsDowns.l0] at H
     by_cases c41 : x9_2 < (t118.length : Int)
     ·
      rw [if_pos c41] at H
      have c41b0 := decide_eq_true c41
      clear c41
      replace H := xI H
      obtain ⟨c42, H⟩ := H
      have c42b0 := decide_eq_true c42
      clear c42
      by_cases c43 : ((rd_T27 t118 x9_2).f0).toList = a2_0.toList
      ·
       rw [if_pos c43] at H
       have c43b0 := beq_iff_eq.mpr c43
       have c43b1 := bne_eq_false_iff_eq.mpr c43
       clear c43
       replace H := xb H
       obtain ⟨t123, A44, H⟩ := H
       by_cases c45 : t123 > 0
       ·
        rw [if_pos c45] at H
        have c45b0 := decide_eq_true c45
        clear c45
        exact absurd ((Option.some.inj H).trans HTRU_.out) (by decide)
       rw [if_neg c45] at H
       have c45b0 := decide_eq_false c45
       clear c45
       have H' := Aside0.mk H
       clear H
       obtain ⟨Ao46, co46, eo46⟩ := Kd.R_slice HO_8.out
       subst eo46
       try go_wp2
       have n0_ := Aside0.mk (Kd.R_drew HO_7.out)
       have n1_ := Aside0.mk (Kd.R_drew HO_8.out)
       have n2_ := Aside0.mk (blk_drew BK101.out)
       have n3_ := Aside0.mk (below_drew1 HB.out)
       clear HO_7
       clear HO_8
       clear BK101
       clear HB
       have HO_7 := n0_
       have HO_8 := n1_
       have BK101 := n2_
       have HB := n3_
       clear n0_ n1_ n2_ n3_
       have p121 : 0 ≤ (x9_2 : Int) := xD
       have q121 : x9_2 < (t118.length : Int) := xD
       obtain ⟨ad121, e121, hx121_0, hx121_1, hx121_2, hx121_3, hx121_4, hx121_5⟩ := at_T27 (Kd.R_reads' HO_8.out).2.2 x9_2 p121 q121
       cases e121
       replace p121 := eq_true p121
       replace q121 := eq_true q121
       have p122 : 0 ≤ (x9_2 : Int) := xD
       have q122 : x9_2 < (t118.length : Int) := xD
       obtain ⟨ad122, e122, hx122_0, hx122_1, hx122_2, hx122_3, hx122_4, hx122_5⟩ := at_T27 (Kd.R_reads' HO_8.out).2.2 x9_2 p122 q122
       obtain rfl : ad121 = ad122 := (by injection e122)
       replace p122 := eq_true p122
       replace q122 := eq_true q122
       refine start_ (n := 19) (S := fun w' => w'.cell? ⟨gb101, 0, none⟩ = some (.string a2_0) ∧ w'.cell? ⟨gb101, 1, none⟩ = some (.int .i64 a2_1) ∧ w'.cell? ⟨gb101, 2, none⟩ = some (.int .i64 a2_2) ∧ w'.cell? ⟨gb101, 3, none⟩ = some (.int .i64 a2_3) ∧ w'.cell? ⟨gb101, 4, none⟩ = some (.string a2_4) ∧ w'.cell? ⟨gb101, 5, none⟩ = some (.string a2_5) ∧ w'.cell? (ad121.add ((x9_2).toNat * 6)) = some (.string ((rd_T27 t118 x9_2).f0)) ∧ w'.cell? ⟨(ad121.add ((x9_2).toNat * 6)).block, (ad121.add ((x9_2).toNat * 6)).off + 1, none⟩ = some (.int .i64 ((rd_T27 t118 x9_2).f1.f0)) ∧ w'.cell? ⟨(ad121.add ((x9_2).toNat * 6)).block, (ad121.add ((x9_2).toNat * 6)).off + 2, none⟩ = some (.int .i64 ((rd_T27 t118 x9_2).f1.f1)) ∧ w'.cell? ⟨(ad121.add ((x9_2).toNat * 6)).block, (ad121.add ((x9_2).toNat * 6)).off + 3, none⟩ = some (.int .i64 ((rd_T27 t118 x9_2).f1.f2)) ∧ w'.cell? ⟨(ad121.add ((x9_2).toNat * 6)).block, (ad121.add ((x9_2).toNat * 6)).off + 4, none⟩ = some (.string ((rd_T27 t118 x9_2).f1.f3)) ∧ w'.cell? ⟨(ad121.add ((x9_2).toNat * 6)).block, (ad121.add ((x9_2).toNat * 6)).off + 5, none⟩ = some (.string ((rd_T27 t118 x9_2).f1.f4)) ∧ w'.cell? (ad121.add ((x9_2).toNat * 6)) = some (.string ((rd_T27 t118 x9_2).f0)) ∧ w'.cell? ⟨(ad121.add ((x9_2).toNat * 6)).block, (ad121.add ((x9_2).toNat * 6)).off + 1, none⟩ = some (.int .i64 ((rd_T27 t118 x9_2).f1.f0)) ∧ w'.cell? ⟨(ad121.add ((x9_2).toNat * 6)).block, (ad121.add ((x9_2).toNat * 6)).off + 2, none⟩ = some (.int .i64 ((rd_T27 t118 x9_2).f1.f1)) ∧ w'.cell? ⟨(ad121.add ((x9_2).toNat * 6)).block, (ad121.add ((x9_2).toNat * 6)).off + 3, none⟩ = some (.int .i64 ((rd_T27 t118 x9_2).f1.f2)) ∧ w'.cell? ⟨(ad121.add ((x9_2).toNat * 6)).block, (ad121.add ((x9_2).toNat * 6)).off + 4, none⟩ = some (.string ((rd_T27 t118 x9_2).f1.f3)) ∧ w'.cell? ⟨(ad121.add ((x9_2).toNat * 6)).block, (ad121.add ((x9_2).toNat * 6)).off + 5, none⟩ = some (.string ((rd_T27 t118 x9_2).f1.f4))) (ds := []) #[ff, ff, ff, ff, ff, ff, ff, ff, ff, ff, ff, ff, ff, ff, ff, ff, ff, ff, ff] (by kernel_rfl) rfl rfl ⟨(blk_cell BK101.out 0).trans rfl, (blk_cell BK101.out 1).trans rfl, (blk_cell BK101.out 2).trans rfl, (blk_cell BK101.out 3).trans rfl, (blk_cell BK101.out 4).trans rfl, (blk_cell BK101.out 5).trans rfl, hx121_0, hx121_1, hx121_2, hx121_3, hx121_4, hx121_5, hx122_0, hx122_1, hx122_2, hx122_3, hx122_4, hx122_5⟩ (fun hHeld => ?_); refine with_tabW armadalaw17_MvsDowns.tab8 armadalaw17_MvsDowns.bits8 (fun HT_ HW_ => ?_)
       generalize wr.drew = w47 at HO_7 HO_8 BK101 HB hx121_0 hx121_1 hx121_2 hx121_3 hx121_4 hx121_5 hx122_0 hx122_1 hx122_2 hx122_3 hx122_4 hx122_5 hHeld ⊢
       refine pure_ (i := 0) (N := some 44) (v := ?_) (a' := ?_) #[tt, ff, ff, ff, ff, ff, ff, ff, ff, ff, ff, ff, ff, ff, ff, ff, ff, ff, ff] rfl rfl (any_of HT_.out (by kernel_rfl)) (fun _ _ _ h => h) (Or.inl ⟨by rfl, ?_⟩) ?_ ?_
       rotate_left
       ·
        intro w'
        go_simp
        with_reducible rfl
       rotate_left
       ·
        simp only [Act.put, List.setIfInBounds_toArray, List.set_cons_zero, List.set_cons_succ, i64_w, i32_w]
        rfl
       refine pure_ (i := 1) (N := some 45) (v := ?_) (a' := ?_) #[tt, tt, ff, ff, ff, ff, ff, ff, ff, ff, ff, ff, ff, ff, ff, ff, ff, ff, ff] rfl rfl (any_of HT_.out (by kernel_rfl)) (fun _ _ _ h => h) (Or.inl ⟨by rfl, ?_⟩) ?_ ?_
       rotate_left
       ·
        intro w'
        go_simp
        with_reducible rfl
       rotate_left
       ·
        simp only [Act.put, List.setIfInBounds_toArray, List.set_cons_zero, List.set_cons_succ, i64_w, i32_w]
        rfl
       refine pure_ (i := 2) (N := some 46) (v := ?_) (a' := ?_) #[tt, tt, tt, ff, ff, ff, ff, ff, ff, ff, ff, ff, ff, ff, ff, ff, ff, ff, ff] rfl rfl (any_of HT_.out (by kernel_rfl)) (fun _ _ _ h => h) (Or.inl ⟨by rfl, ?_⟩) ?_ ?_
       rotate_left
       ·
        intro w'
        go_simp
        with_reducible rfl
       rotate_left
       ·
        simp only [Act.put, List.setIfInBounds_toArray, List.set_cons_zero, List.set_cons_succ, i64_w, i32_w]
        rfl
       refine pure_ (i := 3) (N := some 47) (v := ?_) (a' := ?_) #[tt, tt, tt, tt, ff, ff, ff, ff, ff, ff, ff, ff, ff, ff, ff, ff, ff, ff, ff] rfl rfl (any_of HT_.out (by kernel_rfl)) (fun _ _ _ h => h) (Or.inl ⟨by rfl, ?_⟩) ?_ ?_
       rotate_left
       ·
        intro w'
        go_simp
        with_reducible rfl
       rotate_left
       ·
        simp only [Act.put, List.setIfInBounds_toArray, List.set_cons_zero, List.set_cons_succ, i64_w, i32_w]
        rfl
       refine pure_ (i := 5) (N := some 49) (v := ?_) (a' := ?_) #[tt, tt, tt, tt, ff, tt, ff, ff, ff, ff, ff, ff, ff, ff, ff, ff, ff, ff, ff] rfl rfl (any_of HT_.out (by kernel_rfl)) (fun _ _ _ h => h) (Or.inl ⟨by rfl, ?_⟩) ?_ ?_
       rotate_left
       ·
        intro w'
        go_simp
        with_reducible rfl
       rotate_left
       ·
        simp only [Act.put, List.setIfInBounds_toArray, List.set_cons_zero, List.set_cons_succ, i64_w, i32_w]
        rfl
       refine take_ (i := 4) (N := some 48) (v := ?_) (a' := ?_) #[tt, tt, tt, tt, tt, tt, ff, ff, ff, ff, ff, ff, ff, ff, ff, ff, ff, ff, ff] rfl rfl (take_ofW HT_.out HW_.out (by kernel_rfl)) (fun _ _ _ h => h) (Or.inl ⟨by rfl, ?_⟩) hHeld ?_ ?_
       rotate_left
       ·
        rintro w' ⟨s0, s1, s2, s3, s4, s5, s6, s7, s8, s9, s10, s11, s12, s13, s14, s15, s16, s17⟩
        go_simp
        with_reducible rfl
       rotate_left
       ·
        simp only [Act.put, List.setIfInBounds_toArray, List.set_cons_zero, List.set_cons_succ, i64_w, i32_w]
        rfl
       refine take_ (i := 6) (N := some 50) (v := ?_) (a' := ?_) #[tt, tt, tt, tt, tt, tt, tt, ff, ff, ff, ff, ff, ff, ff, ff, ff, ff, ff, ff] rfl rfl (take_ofW HT_.out HW_.out (by kernel_rfl)) (fun _ _ _ h => h) (Or.inl ⟨by rfl, ?_⟩) hHeld ?_ ?_
       rotate_left
       ·
        rintro w' ⟨s0, s1, s2, s3, s4, s5, s6, s7, s8, s9, s10, s11, s12, s13, s14, s15, s16, s17⟩
        go_simp
        with_reducible rfl
       rotate_left
       ·
        simp only [Act.put, List.setIfInBounds_toArray, List.set_cons_zero, List.set_cons_succ, i64_w, i32_w]
        rfl
       refine pure_ (i := 7) (N := some 51) (v := ?_) (a' := ?_) #[tt, tt, tt, tt, tt, tt, tt, tt, ff, ff, ff, ff, ff, ff, ff, ff, ff, ff, ff] rfl rfl (any_of HT_.out (by kernel_rfl)) (fun _ _ _ h => h) (Or.inl ⟨by rfl, ?_⟩) ?_ ?_
       rotate_left
       ·
        intro w'
        go_simp
        with_reducible rfl
       rotate_left
       ·
        simp only [Act.put, List.setIfInBounds_toArray, List.set_cons_zero, List.set_cons_succ, i64_w, i32_w]
        rfl
       refine pure_ (i := 8) (N := some 52) (v := ?_) (a' := ?_) #[tt, tt, tt, tt, tt, tt, tt, tt, tt, ff, ff, ff, ff, ff, ff, ff, ff, ff, ff] rfl rfl (any_of HT_.out (by kernel_rfl)) (fun _ _ _ h => h) (Or.inl ⟨by rfl, ?_⟩) ?_ ?_
       rotate_left
       ·
        intro w'
        go_simp
        with_reducible rfl
       rotate_left
       ·
        simp only [Act.put, List.setIfInBounds_toArray, List.set_cons_zero, List.set_cons_succ, i64_w, i32_w]
        rfl
       refine pure_ (i := 9) (N := some 53) (v := ?_) (a' := ?_) #[tt, tt, tt, tt, tt, tt, tt, tt, tt, tt, ff, ff, ff, ff, ff, ff, ff, ff, ff] rfl rfl (any_of HT_.out (by kernel_rfl)) (fun _ _ _ h => h) (Or.inl ⟨by rfl, ?_⟩) ?_ ?_
       rotate_left
       ·
        intro w'
        go_simp
        with_reducible rfl
       rotate_left
       ·
        simp only [Act.put, List.setIfInBounds_toArray, List.set_cons_zero, List.set_cons_succ, i64_w, i32_w]
        rfl
       refine pure_ (i := 10) (N := some 54) (v := ?_) (a' := ?_) #[tt, tt, tt, tt, tt, tt, tt, tt, tt, tt, tt, ff, ff, ff, ff, ff, ff, ff, ff] rfl rfl (any_of HT_.out (by kernel_rfl)) (fun _ _ _ h => h) (Or.inl ⟨by rfl, ?_⟩) ?_ ?_
       rotate_left
       ·
        intro w'
        go_simp
        with_reducible rfl
       rotate_left
       ·
        simp only [Act.put, List.setIfInBounds_toArray, List.set_cons_zero, List.set_cons_succ, i64_w, i32_w]
        rfl
       refine pure_ (i := 11) (N := some 55) (v := ?_) (a' := ?_) #[tt, tt, tt, tt, tt, tt, tt, tt, tt, tt, tt, tt, ff, ff, ff, ff, ff, ff, ff] rfl rfl (any_of HT_.out (by kernel_rfl)) (fun _ _ _ h => h) (Or.inl ⟨by rfl, ?_⟩) ?_ ?_
       rotate_left
       ·
        intro w'
        go_simp
        with_reducible rfl
       rotate_left
       ·
        simp only [Act.put, List.setIfInBounds_toArray, List.set_cons_zero, List.set_cons_succ, i64_w, i32_w]
        rfl
       refine pure_ (i := 12) (N := some 56) (v := ?_) (a' := ?_) #[tt, tt, tt, tt, tt, tt, tt, tt, tt, tt, tt, tt, tt, ff, ff, ff, ff, ff, ff] rfl rfl (any_of HT_.out (by kernel_rfl)) (fun _ _ _ h => h) (Or.inl ⟨by rfl, ?_⟩) ?_ ?_
       rotate_left
       ·
        intro w'
        go_simp
        with_reducible rfl
       rotate_left
       ·
        simp only [Act.put, List.setIfInBounds_toArray, List.set_cons_zero, List.set_cons_succ, i64_w, i32_w]
        rfl
       refine pure_ (i := 14) (N := some 58) (v := ?_) (a' := ?_) #[tt, tt, tt, tt, tt, tt, tt, tt, tt, tt, tt, tt, tt, ff, tt, ff, ff, ff, ff] rfl rfl (any_of HT_.out (by kernel_rfl)) (fun _ _ _ h => h) (Or.inl ⟨by rfl, ?_⟩) ?_ ?_
       rotate_left
       ·
        intro w'
        go_simp
        with_reducible rfl
       rotate_left
       ·
        simp only [Act.put, List.setIfInBounds_toArray, List.set_cons_zero, List.set_cons_succ, i64_w, i32_w]
        rfl
       refine take_ (i := 13) (N := some 57) (v := ?_) (a' := ?_) #[tt, tt, tt, tt, tt, tt, tt, tt, tt, tt, tt, tt, tt, tt, tt, ff, ff, ff, ff] rfl rfl (take_ofW HT_.out HW_.out (by kernel_rfl)) (fun _ _ _ h => h) (Or.inl ⟨by rfl, ?_⟩) hHeld ?_ ?_
       rotate_left
       ·
        rintro w' ⟨s0, s1, s2, s3, s4, s5, s6, s7, s8, s9, s10, s11, s12, s13, s14, s15, s16, s17⟩
        go_simp
        with_reducible rfl
       rotate_left
       ·
        simp only [Act.put, List.setIfInBounds_toArray, List.set_cons_zero, List.set_cons_succ, i64_w, i32_w]
        rfl
       refine take_ (i := 15) (N := some 59) (v := ?_) (a' := ?_) #[tt, tt, tt, tt, tt, tt, tt, tt, tt, tt, tt, tt, tt, tt, tt, tt, ff, ff, ff] rfl rfl (take_ofW HT_.out HW_.out (by kernel_rfl)) (fun _ _ _ h => h) (Or.inl ⟨by rfl, ?_⟩) hHeld ?_ ?_
       rotate_left
       ·
        rintro w' ⟨s0, s1, s2, s3, s4, s5, s6, s7, s8, s9, s10, s11, s12, s13, s14, s15, s16, s17⟩
        go_simp
        with_reducible rfl
       rotate_left
       ·
        simp only [Act.put, List.setIfInBounds_toArray, List.set_cons_zero, List.set_cons_succ, i64_w, i32_w]
        rfl
       refine one_ (i := 16) (N := some 60) #[tt, tt, tt, tt, tt, tt, tt, tt, tt, tt, tt, tt, tt, tt, tt, tt, tt, ff, ff] rfl rfl (one_of HT_.out (by kernel_rfl)) (by decide) (fun K hK => ?_)
       refine goes_ Tryz.func26 (by kernel_rfl) rfl #[.agg #[.int .i64 ((rd_T27 t118 x9_2).f1.f0), .int .i64 ((rd_T27 t118 x9_2).f1.f1), .int .i64 ((rd_T27 t118 x9_2).f1.f2), .string ((rd_T27 t118 x9_2).f1.f3), .string ((rd_T27 t118 x9_2).f1.f4)], .agg #[.int .i64 a2_1, .int .i64 a2_2, .int .i64 a2_3, .string a2_4, .string a2_5]] (by rfl) rfl rfl xS ?_
       with_reducible refine (armadaref07_Compare.calls k2 ((rd_T27 t118 x9_2).f1.f0) ((rd_T27 t118 x9_2).f1.f1) ((rd_T27 t118 x9_2).f1.f2) ((rd_T27 t118 x9_2).f1.f3) ((rd_T27 t118 x9_2).f1.f4) a2_1 a2_2 a2_3 a2_4 a2_5 t123 _ A44.out).mono ?_
       rintro e w48 ⟨rfl, hb⟩
       have HS6_ := (hb.cell (World.block_lt_of_cell? _ _ (hHeld.2.2.2.2.2.2.1))).trans (hHeld.2.2.2.2.2.2.1)
       have HS7_ := (hb.cell (World.block_lt_of_cell? _ _ (hHeld.2.2.2.2.2.2.2.1))).trans (hHeld.2.2.2.2.2.2.2.1)
       have HS8_ := (hb.cell (World.block_lt_of_cell? _ _ (hHeld.2.2.2.2.2.2.2.2.1))).trans (hHeld.2.2.2.2.2.2.2.2.1)
       have HS9_ := (hb.cell (World.block_lt_of_cell? _ _ (hHeld.2.2.2.2.2.2.2.2.2.1))).trans (hHeld.2.2.2.2.2.2.2.2.2.1)
       have HS10_ := (hb.cell (World.block_lt_of_cell? _ _ (hHeld.2.2.2.2.2.2.2.2.2.2.1))).trans (hHeld.2.2.2.2.2.2.2.2.2.2.1)
       have HS11_ := (hb.cell (World.block_lt_of_cell? _ _ (hHeld.2.2.2.2.2.2.2.2.2.2.2.1))).trans (hHeld.2.2.2.2.2.2.2.2.2.2.2.1)
       have HS12_ := (hb.cell (World.block_lt_of_cell? _ _ (hHeld.2.2.2.2.2.2.2.2.2.2.2.2.1))).trans (hHeld.2.2.2.2.2.2.2.2.2.2.2.2.1)
       have HS13_ := (hb.cell (World.block_lt_of_cell? _ _ (hHeld.2.2.2.2.2.2.2.2.2.2.2.2.2.1))).trans (hHeld.2.2.2.2.2.2.2.2.2.2.2.2.2.1)
       have HS14_ := (hb.cell (World.block_lt_of_cell? _ _ (hHeld.2.2.2.2.2.2.2.2.2.2.2.2.2.2.1))).trans (hHeld.2.2.2.2.2.2.2.2.2.2.2.2.2.2.1)
       have HS15_ := (hb.cell (World.block_lt_of_cell? _ _ (hHeld.2.2.2.2.2.2.2.2.2.2.2.2.2.2.2.1))).trans (hHeld.2.2.2.2.2.2.2.2.2.2.2.2.2.2.2.1)
       have HS16_ := (hb.cell (World.block_lt_of_cell? _ _ (hHeld.2.2.2.2.2.2.2.2.2.2.2.2.2.2.2.2.1))).trans (hHeld.2.2.2.2.2.2.2.2.2.2.2.2.2.2.2.2.1)
       have HS17_ := (hb.cell (World.block_lt_of_cell? _ _ (hHeld.2.2.2.2.2.2.2.2.2.2.2.2.2.2.2.2.2))).trans (hHeld.2.2.2.2.2.2.2.2.2.2.2.2.2.2.2.2.2)
       refine ⟨_, rfl, ?_⟩
       have n0_ := Aside0.mk (Kd.R_below (by (with_reducible repeat (first | apply Kd.R_alloc | apply Kd.R_drewN | apply Kd.R_drew)); exact HO_7.out) hb)
       have n1_ := Aside0.mk (Kd.R_below (by (with_reducible repeat (first | apply Kd.R_alloc | apply Kd.R_drewN | apply Kd.R_drew)); exact HO_8.out) hb)
       have n2_ := Aside0.mk (blk_below (g := gb101) (o := .cells #[.string a2_0, .int .i64 a2_1, .int .i64 a2_2, .int .i64 a2_3, .string a2_4, .string a2_5] 27 (0, 0)) xK hb)
       have n3_ := Aside0.mk (below_step xB hb)
       clear HO_7
       clear HO_8
       clear BK101
       clear HB
       have HO_7 := n0_
       have HO_8 := n1_
       have BK101 := n2_
       have HB := n3_
       clear n0_ n1_ n2_ n3_
       (try clear hb)
       (try clear hb2)
       (try clear hk)
       (try clear hi)
       refine hK.out _ _ ⟨(blk_cell BK101.out 0).trans rfl, (blk_cell BK101.out 1).trans rfl, (blk_cell BK101.out 2).trans rfl, (blk_cell BK101.out 3).trans rfl, (blk_cell BK101.out 4).trans rfl, (blk_cell BK101.out 5).trans rfl, HS6_, HS7_, HS8_, HS9_, HS10_, HS11_, HS12_, HS13_, HS14_, HS15_, HS16_, HS17_⟩ (fun hHeld => ?_)
       clear hK K
       refine norm_ (a' := ?_) ?_ ?_
       rotate_left
       ·
        show Act.put _ (some 60) _ = _
        simp only [Act.put, List.setIfInBounds_toArray, List.set_cons_zero, List.set_cons_succ, i64_w, i32_w]
        rfl
       refine pure_ (i := 17) (N := some 61) (v := ?_) (a' := ?_) #[tt, tt, tt, tt, tt, tt, tt, tt, tt, tt, tt, tt, tt, tt, tt, tt, tt, tt, ff] rfl rfl (any_of HT_.out (by kernel_rfl)) (fun _ _ _ h => h) (Or.inl ⟨by rfl, ?_⟩) ?_ ?_
       rotate_left
       ·
        intro w'
        go_simp
        with_reducible rfl
       rotate_left
       ·
        simp only [Act.put, List.setIfInBounds_toArray, List.set_cons_zero, List.set_cons_succ, i64_w, i32_w]
        rfl
       refine pure_ (i := 18) (N := some 62) (v := ?_) (a' := ?_) #[tt, tt, tt, tt, tt, tt, tt, tt, tt, tt, tt, tt, tt, tt, tt, tt, tt, tt, tt] rfl rfl (any_of HT_.out (by kernel_rfl)) (fun _ _ _ h => h) (Or.inl ⟨by rfl, ?_⟩) ?_ ?_
       rotate_left
       ·
        intro w'
        go_simp
        with_reducible rfl
       rotate_left
       ·
        simp only [Act.put, List.setIfInBounds_toArray, List.set_cons_zero, List.set_cons_succ, i64_w, i32_w]
        rfl
       refine done_ (done_of HT_.out (by kernel_rfl)) ?_
       try go_wp2
       go_roundg k2
       case measure => have := HJ3.out; have := HK2.out; omega
       case rel => exact ⟨(wrap64 (x9_2 + 1)), xR, H', ⟨by have := HJ3.out; have := HK2.out; omega⟩, ⟨by (with_reducible repeat (first | apply Kd.R_alloc | apply Kd.R_drewN | apply Kd.R_drew)); exact HO_7.out⟩, ⟨by (with_reducible repeat (first | apply Kd.R_alloc | apply Kd.R_drewN | apply Kd.R_drew)); exact HO_8.out⟩, ⟨by (with_reducible repeat (first | refine blk_drewN ?_ _ | refine blk_drew ?_ | refine blk_alloc ?_ _)); exact BK101.out⟩, ⟨xB⟩⟩
      rw [if_neg c43] at H
      have c43b0 := beq_eq_false_iff_ne.mpr c43
      have c43b1 := bne_iff_ne.mpr c43
      have H' := Aside0.mk H
      clear H
      obtain ⟨Ao49, co49, eo49⟩ := Kd.R_slice HO_8.out
      subst eo49
      try go_wp2
      have n0_ := Aside0.mk (Kd.R_drew HO_7.out)
      have n1_ := Aside0.mk (Kd.R_drew HO_8.out)
      have n2_ := Aside0.mk (blk_drew BK101.out)
      have n3_ := Aside0.mk (below_drew1 HB.out)
      clear HO_7
      clear HO_8
      clear BK101
      clear HB
      have HO_7 := n0_
      have HO_8 := n1_
      have BK101 := n2_
      have HB := n3_
      clear n0_ n1_ n2_ n3_
      have p121 : 0 ≤ (x9_2 : Int) := xD
      have q121 : x9_2 < (t118.length : Int) := xD
      obtain ⟨ad121, e121, hx121_0, hx121_1, hx121_2, hx121_3, hx121_4, hx121_5⟩ := at_T27 (Kd.R_reads' HO_8.out).2.2 x9_2 p121 q121
      cases e121
      replace p121 := eq_true p121
      replace q121 := eq_true q121
      refine start_ (n := 19) (S := fun w' => w'.cell? ⟨gb101, 0, none⟩ = some (.string a2_0) ∧ w'.cell? ⟨gb101, 1, none⟩ = some (.int .i64 a2_1) ∧ w'.cell? ⟨gb101, 2, none⟩ = some (.int .i64 a2_2) ∧ w'.cell? ⟨gb101, 3, none⟩ = some (.int .i64 a2_3) ∧ w'.cell? ⟨gb101, 4, none⟩ = some (.string a2_4) ∧ w'.cell? ⟨gb101, 5, none⟩ = some (.string a2_5) ∧ w'.cell? (ad121.add ((x9_2).toNat * 6)) = some (.string ((rd_T27 t118 x9_2).f0)) ∧ w'.cell? ⟨(ad121.add ((x9_2).toNat * 6)).block, (ad121.add ((x9_2).toNat * 6)).off + 1, none⟩ = some (.int .i64 ((rd_T27 t118 x9_2).f1.f0)) ∧ w'.cell? ⟨(ad121.add ((x9_2).toNat * 6)).block, (ad121.add ((x9_2).toNat * 6)).off + 2, none⟩ = some (.int .i64 ((rd_T27 t118 x9_2).f1.f1)) ∧ w'.cell? ⟨(ad121.add ((x9_2).toNat * 6)).block, (ad121.add ((x9_2).toNat * 6)).off + 3, none⟩ = some (.int .i64 ((rd_T27 t118 x9_2).f1.f2)) ∧ w'.cell? ⟨(ad121.add ((x9_2).toNat * 6)).block, (ad121.add ((x9_2).toNat * 6)).off + 4, none⟩ = some (.string ((rd_T27 t118 x9_2).f1.f3)) ∧ w'.cell? ⟨(ad121.add ((x9_2).toNat * 6)).block, (ad121.add ((x9_2).toNat * 6)).off + 5, none⟩ = some (.string ((rd_T27 t118 x9_2).f1.f4))) (ds := []) #[ff, ff, ff, ff, ff, ff, ff, ff, ff, ff, ff, ff, ff, ff, ff, ff, ff, ff, ff] (by kernel_rfl) rfl rfl ⟨(blk_cell BK101.out 0).trans rfl, (blk_cell BK101.out 1).trans rfl, (blk_cell BK101.out 2).trans rfl, (blk_cell BK101.out 3).trans rfl, (blk_cell BK101.out 4).trans rfl, (blk_cell BK101.out 5).trans rfl, hx121_0, hx121_1, hx121_2, hx121_3, hx121_4, hx121_5⟩ (fun hHeld => ?_); refine with_tabW armadalaw17_MvsDowns.tab8 armadalaw17_MvsDowns.bits8 (fun HT_ HW_ => ?_)
      generalize wr.drew = w50 at HO_7 HO_8 BK101 HB hx121_0 hx121_1 hx121_2 hx121_3 hx121_4 hx121_5 hHeld ⊢
      refine pure_ (i := 0) (N := some 44) (v := ?_) (a' := ?_) #[tt, ff, ff, ff, ff, ff, ff, ff, ff, ff, ff, ff, ff, ff, ff, ff, ff, ff, ff] rfl rfl (any_of HT_.out (by kernel_rfl)) (fun _ _ _ h => h) (Or.inl ⟨by rfl, ?_⟩) ?_ ?_
      rotate_left
      ·
       intro w'
       go_simp
       with_reducible rfl
      rotate_left
      ·
       simp only [Act.put, List.setIfInBounds_toArray, List.set_cons_zero, List.set_cons_succ, i64_w, i32_w]
       rfl
      refine pure_ (i := 1) (N := some 45) (v := ?_) (a' := ?_) #[tt, tt, ff, ff, ff, ff, ff, ff, ff, ff, ff, ff, ff, ff, ff, ff, ff, ff, ff] rfl rfl (any_of HT_.out (by kernel_rfl)) (fun _ _ _ h => h) (Or.inl ⟨by rfl, ?_⟩) ?_ ?_
      rotate_left
      ·
       intro w'
       go_simp
       with_reducible rfl
      rotate_left
      ·
       simp only [Act.put, List.setIfInBounds_toArray, List.set_cons_zero, List.set_cons_succ, i64_w, i32_w]
       rfl
      refine pure_ (i := 2) (N := some 46) (v := ?_) (a' := ?_) #[tt, tt, tt, ff, ff, ff, ff, ff, ff, ff, ff, ff, ff, ff, ff, ff, ff, ff, ff] rfl rfl (any_of HT_.out (by kernel_rfl)) (fun _ _ _ h => h) (Or.inl ⟨by rfl, ?_⟩) ?_ ?_
      rotate_left
      ·
       intro w'
       go_simp
       with_reducible rfl
      rotate_left
      ·
       simp only [Act.put, List.setIfInBounds_toArray, List.set_cons_zero, List.set_cons_succ, i64_w, i32_w]
       rfl
      refine pure_ (i := 3) (N := some 47) (v := ?_) (a' := ?_) #[tt, tt, tt, tt, ff, ff, ff, ff, ff, ff, ff, ff, ff, ff, ff, ff, ff, ff, ff] rfl rfl (any_of HT_.out (by kernel_rfl)) (fun _ _ _ h => h) (Or.inl ⟨by rfl, ?_⟩) ?_ ?_
      rotate_left
      ·
       intro w'
       go_simp
       with_reducible rfl
      rotate_left
      ·
       simp only [Act.put, List.setIfInBounds_toArray, List.set_cons_zero, List.set_cons_succ, i64_w, i32_w]
       rfl
      refine pure_ (i := 5) (N := some 49) (v := ?_) (a' := ?_) #[tt, tt, tt, tt, ff, tt, ff, ff, ff, ff, ff, ff, ff, ff, ff, ff, ff, ff, ff] rfl rfl (any_of HT_.out (by kernel_rfl)) (fun _ _ _ h => h) (Or.inl ⟨by rfl, ?_⟩) ?_ ?_
      rotate_left
      ·
       intro w'
       go_simp
       with_reducible rfl
      rotate_left
      ·
       simp only [Act.put, List.setIfInBounds_toArray, List.set_cons_zero, List.set_cons_succ, i64_w, i32_w]
       rfl
      refine take_ (i := 4) (N := some 48) (v := ?_) (a' := ?_) #[tt, tt, tt, tt, tt, tt, ff, ff, ff, ff, ff, ff, ff, ff, ff, ff, ff, ff, ff] rfl rfl (take_ofW HT_.out HW_.out (by kernel_rfl)) (fun _ _ _ h => h) (Or.inl ⟨by rfl, ?_⟩) hHeld ?_ ?_
      rotate_left
      ·
       rintro w' ⟨s0, s1, s2, s3, s4, s5, s6, s7, s8, s9, s10, s11⟩
       go_simp
       with_reducible rfl
      rotate_left
      ·
       simp only [Act.put, List.setIfInBounds_toArray, List.set_cons_zero, List.set_cons_succ, i64_w, i32_w]
       rfl
      refine take_ (i := 6) (N := some 50) (v := ?_) (a' := ?_) #[tt, tt, tt, tt, tt, tt, tt, ff, ff, ff, ff, ff, ff, ff, ff, ff, ff, ff, ff] rfl rfl (take_ofW HT_.out HW_.out (by kernel_rfl)) (fun _ _ _ h => h) (Or.inl ⟨by rfl, ?_⟩) hHeld ?_ ?_
      rotate_left
      ·
       rintro w' ⟨s0, s1, s2, s3, s4, s5, s6, s7, s8, s9, s10, s11⟩
       go_simp
       with_reducible rfl
      rotate_left
      ·
       simp only [Act.put, List.setIfInBounds_toArray, List.set_cons_zero, List.set_cons_succ, i64_w, i32_w]
       rfl
      refine pure_ (i := 7) (N := some 51) (v := ?_) (a' := ?_) #[tt, tt, tt, tt, tt, tt, tt, tt, ff, ff, ff, ff, ff, ff, ff, ff, ff, ff, ff] rfl rfl (any_of HT_.out (by kernel_rfl)) (fun _ _ _ h => h) (Or.inl ⟨by rfl, ?_⟩) ?_ ?_
      rotate_left
      ·
       intro w'
       go_simp
       with_reducible rfl
      rotate_left
      ·
       simp only [Act.put, List.setIfInBounds_toArray, List.set_cons_zero, List.set_cons_succ, i64_w, i32_w]
       rfl
      refine pure_ (i := 8) (N := some 52) (v := ?_) (a' := ?_) #[tt, tt, tt, tt, tt, tt, tt, tt, tt, ff, ff, ff, ff, ff, ff, ff, ff, ff, ff] rfl rfl (any_of HT_.out (by kernel_rfl)) (fun _ _ _ h => h) (Or.inl ⟨by rfl, ?_⟩) ?_ ?_
      rotate_left
      ·
       intro w'
       go_simp
       with_reducible rfl
      rotate_left
      ·
       simp only [Act.put, List.setIfInBounds_toArray, List.set_cons_zero, List.set_cons_succ, i64_w, i32_w]
       rfl
      refine pure_ (i := 9) (N := some 53) (v := undef) (a' := ?_) #[tt, tt, tt, tt, tt, tt, tt, tt, tt, tt, ff, ff, ff, ff, ff, ff, ff, ff, ff] rfl rfl (any_of HT_.out (by kernel_rfl)) (fun _ _ _ h => h) (Or.inr ⟨by rfl, rfl⟩) ?_ ?_
      rotate_left
      ·
       simp only [Act.put, List.setIfInBounds_toArray, List.set_cons_zero, List.set_cons_succ, i64_w, i32_w]
       rfl
      refine pure_ (i := 10) (N := some 54) (v := undef) (a' := ?_) #[tt, tt, tt, tt, tt, tt, tt, tt, tt, tt, tt, ff, ff, ff, ff, ff, ff, ff, ff] rfl rfl (any_of HT_.out (by kernel_rfl)) (fun _ _ _ h => h) (Or.inr ⟨by rfl, rfl⟩) ?_ ?_
      rotate_left
      ·
       simp only [Act.put, List.setIfInBounds_toArray, List.set_cons_zero, List.set_cons_succ, i64_w, i32_w]
       rfl
      refine pure_ (i := 11) (N := some 55) (v := undef) (a' := ?_) #[tt, tt, tt, tt, tt, tt, tt, tt, tt, tt, tt, tt, ff, ff, ff, ff, ff, ff, ff] rfl rfl (any_of HT_.out (by kernel_rfl)) (fun _ _ _ h => h) (Or.inr ⟨by rfl, rfl⟩) ?_ ?_
      rotate_left
      ·
       simp only [Act.put, List.setIfInBounds_toArray, List.set_cons_zero, List.set_cons_succ, i64_w, i32_w]
       rfl
      refine pure_ (i := 12) (N := some 56) (v := undef) (a' := ?_) #[tt, tt, tt, tt, tt, tt, tt, tt, tt, tt, tt, tt, tt, ff, ff, ff, ff, ff, ff] rfl rfl (any_of HT_.out (by kernel_rfl)) (fun _ _ _ h => h) (Or.inr ⟨by rfl, rfl⟩) ?_ ?_
      rotate_left
      ·
       simp only [Act.put, List.setIfInBounds_toArray, List.set_cons_zero, List.set_cons_succ, i64_w, i32_w]
       rfl
      refine pure_ (i := 13) (N := some 57) (v := undef) (a' := ?_) #[tt, tt, tt, tt, tt, tt, tt, tt, tt, tt, tt, tt, tt, tt, ff, ff, ff, ff, ff] rfl rfl (any_of HT_.out (by kernel_rfl)) (fun _ _ _ h => h) (Or.inr ⟨by rfl, rfl⟩) ?_ ?_
      rotate_left
      ·
       simp only [Act.put, List.setIfInBounds_toArray, List.set_cons_zero, List.set_cons_succ, i64_w, i32_w]
       rfl
      refine pure_ (i := 14) (N := some 58) (v := undef) (a' := ?_) #[tt, tt, tt, tt, tt, tt, tt, tt, tt, tt, tt, tt, tt, tt, tt, ff, ff, ff, ff] rfl rfl (any_of HT_.out (by kernel_rfl)) (fun _ _ _ h => h) (Or.inr ⟨by rfl, rfl⟩) ?_ ?_
      rotate_left
      ·
       simp only [Act.put, List.setIfInBounds_toArray, List.set_cons_zero, List.set_cons_succ, i64_w, i32_w]
       rfl
      refine pure_ (i := 15) (N := some 59) (v := undef) (a' := ?_) #[tt, tt, tt, tt, tt, tt, tt, tt, tt, tt, tt, tt, tt, tt, tt, tt, ff, ff, ff] rfl rfl (any_of HT_.out (by kernel_rfl)) (fun _ _ _ h => h) (Or.inr ⟨by rfl, rfl⟩) ?_ ?_
      rotate_left
      ·
       simp only [Act.put, List.setIfInBounds_toArray, List.set_cons_zero, List.set_cons_succ, i64_w, i32_w]
       rfl
      refine pure_ (i := 16) (N := some 60) (v := undef) (a' := ?_) #[tt, tt, tt, tt, tt, tt, tt, tt, tt, tt, tt, tt, tt, tt, tt, tt, tt, ff, ff] rfl rfl (any_of HT_.out (by kernel_rfl)) (fun _ _ _ h => h) (Or.inr ⟨by rfl, rfl⟩) ?_ ?_
      rotate_left
      ·
       simp only [Act.put, List.setIfInBounds_toArray, List.set_cons_zero, List.set_cons_succ, i64_w, i32_w]
       rfl
      refine pure_ (i := 17) (N := some 61) (v := undef) (a' := ?_) #[tt, tt, tt, tt, tt, tt, tt, tt, tt, tt, tt, tt, tt, tt, tt, tt, tt, tt, ff] rfl rfl (any_of HT_.out (by kernel_rfl)) (fun _ _ _ h => h) (Or.inr ⟨by rfl, rfl⟩) ?_ ?_
      rotate_left
      ·
       simp only [Act.put, List.setIfInBounds_toArray, List.set_cons_zero, List.set_cons_succ, i64_w, i32_w]
       rfl
      refine pure_ (i := 18) (N := some 62) (v := ?_) (a' := ?_) #[tt, tt, tt, tt, tt, tt, tt, tt, tt, tt, tt, tt, tt, tt, tt, tt, tt, tt, tt] rfl rfl (any_of HT_.out (by kernel_rfl)) (fun _ _ _ h => h) (Or.inl ⟨by rfl, ?_⟩) ?_ ?_
      rotate_left
      ·
       intro w'
       go_simp
       with_reducible rfl
      rotate_left
      ·
       simp only [Act.put, List.setIfInBounds_toArray, List.set_cons_zero, List.set_cons_succ, i64_w, i32_w]
       rfl
      refine done_ (done_of HT_.out (by kernel_rfl)) ?_
      try go_wp2
      go_roundg k2
      case measure => have := HJ3.out; have := HK2.out; omega
      case rel => exact ⟨(wrap64 (x9_2 + 1)), xR, H', ⟨by have := HJ3.out; have := HK2.out; omega⟩, ⟨by (with_reducible repeat (first | apply Kd.R_alloc | apply Kd.R_drewN | apply Kd.R_drew)); exact HO_7.out⟩, ⟨by (with_reducible repeat (first | apply Kd.R_alloc | apply Kd.R_drewN | apply Kd.R_drew)); exact HO_8.out⟩, ⟨by (with_reducible repeat (first | refine blk_drewN ?_ _ | refine blk_drew ?_ | refine blk_alloc ?_ _)); exact BK101.out⟩, ⟨xB⟩⟩
     rw [if_neg c41] at H
     have c41b0 := decide_eq_false c41
     clear c41
     replace H := xb H
     obtain ⟨t124, A51, H⟩ := H
     replace H := xb H
     obtain ⟨t127, A52, H⟩ := H
     have H' := Aside0.mk H
     clear H
     obtain ⟨Ao53, co53, eo53⟩ := Kd.R_slice HO_8.out
     subst eo53
     go_wp2_with (first | ((with_reducible refine gate_callee (f := 13) rfl ?_); refine goesL_ (some 65) rfl rfl Tryz.func13 (by kernel_rfl) rfl #[.slice A1 l1.length c1] rfl xS ?_; (with_reducible refine (armadalaw17_own.calls k2 (fun k_ => k_ < w.heap.size) _ _ l1 t124 _ ?side1 A51.out).mono ?_); (case side1 => exact Kd.V_mk HC1.out (Kd.F_below (Kd.C_F k46_heap HR1.out) xB)); rintro e w54 ⟨v125, rfl, ho0, hb⟩; refine ⟨_, rfl, ?_⟩; have HO126 := Aside0.mk (Kd.N_lower (Kd.N_mono (ok' := fun k_ => some k_ ≠ (.slice Ao38 t112.length co38 : Value).ownBlock ∧ some k_ ≠ (.slice Ao53 t118.length co53 : Value).ownBlock ∧ k_ ≠ gb101) ho0 (fun k_ hk_ => ⟨Or.elim hk_ (fun hs_ => fun e_ => Nat.not_le.2 hs_ (Kd.R_base HO_7.out k_ e_.symm)) (fun hn_ => (Kd.fresh' (Kd.R_lt (by (with_reducible repeat (first | apply Kd.R_alloc | apply Kd.R_drewN | apply Kd.R_drew)); exact HO_7.out)) k_ hn_)), Or.elim hk_ (fun hs_ => fun e_ => Nat.not_le.2 hs_ (Kd.R_base HO_8.out k_ e_.symm)) (fun hn_ => (Kd.fresh' (Kd.R_lt (by (with_reducible repeat (first | apply Kd.R_alloc | apply Kd.R_drewN | apply Kd.R_drew)); exact HO_8.out)) k_ hn_)), Or.elim hk_ (fun hs_ => fun e_ => Nat.not_le.2 hs_ (by rw [e_]; exact GW101.out)) (fun hn_ => (Kd.freshB (g := gb101) (o := .cells #[.string a2_0, .int .i64 a2_1, .int .i64 a2_2, .int .i64 a2_3, .string a2_4, .string a2_5] 27 (0, 0)) xK k_ hn_))⟩)) (below_size xB)); replace HO_7 := Aside0.mk (Kd.R_below (by (with_reducible repeat (first | apply Kd.R_alloc | apply Kd.R_drewN | apply Kd.R_drew)); exact HO_7.out) hb); replace HO_8 := Aside0.mk (Kd.R_below (by (with_reducible repeat (first | apply Kd.R_alloc | apply Kd.R_drewN | apply Kd.R_drew)); exact HO_8.out) hb); replace BK101 := Aside0.mk (blk_below (g := gb101) (o := .cells #[.string a2_0, .int .i64 a2_1, .int .i64 a2_2, .int .i64 a2_3, .string a2_4, .string a2_5] 27 (0, 0)) xK hb); replace HB := Aside0.mk (below_step xB hb); (try clear hb); (try clear hb2); (try clear hk); (try clear hi); (try clear ho0); obtain ⟨Ao55, co55, eo55⟩ := Kd.N_slice HO126.out; subst eo55) | ((with_reducible refine gate_callee (f := 17) rfl ?_); refine goesL_ (some 66) rfl rfl Tryz.func17 (by kernel_rfl) rfl #[.slice A0 l0.length c0, .slice Ao55 t124.length co55] rfl xS ?_; (with_reducible refine (mvs_List.calls _ _ l0 _ _ t124 t127 _ ?side1 ?side2 ?side3 ?side4 ?side5 A52.out).mono ?_); (case side1 => repeat (first | exact (Kd.C_below HR0.out HB.out) | (with_reducible refine Kd.C_alloc ?_ _) | (with_reducible refine Kd.C_drewN ?_ _) | (with_reducible refine Kd.C_drew ?_))); (case side2 => exact HC0.out); (case side3 => repeat (first | exact (Kd.N_reads' HO126.out).2.2 | (with_reducible refine Kd.C_alloc ?_ _) | (with_reducible refine Kd.C_drewN ?_ _) | (with_reducible refine Kd.C_drew ?_))); (case side4 => exact (Kd.N_reads' HO126.out).2.1); (case side5 => exact GW.below HGW.out xB); rintro e w56 ⟨v128, rfl, ho0, hb⟩; refine ⟨_, rfl, ?_⟩; replace HO126 := Aside0.mk (Kd.N_elder' (by (with_reducible repeat (first | apply Kd.N_alloc | apply Kd.N_drewN | apply Kd.N_drew)); exact HO126.out) (Kd.R_base ho0) hb); have HO129 := Aside0.mk (Kd.R_lower (Kd.R_newB (Kd.R_new' (Kd.R_new' ho0 (Kd.R_lt (by (with_reducible repeat (first | apply Kd.R_alloc | apply Kd.R_drewN | apply Kd.R_drew)); exact HO_7.out))) (Kd.R_lt (by (with_reducible repeat (first | apply Kd.R_alloc | apply Kd.R_drewN | apply Kd.R_drew)); exact HO_8.out))) (g := gb101) (o := .cells #[.string a2_0, .int .i64 a2_1, .int .i64 a2_2, .int .i64 a2_3, .string a2_4, .string a2_5] 27 (0, 0)) xK) (below_size xB)); replace HO_7 := Aside0.mk (Kd.R_elder' (by (with_reducible repeat (first | apply Kd.R_alloc | apply Kd.R_drewN | apply Kd.R_drew)); exact HO_7.out) (Kd.R_base ho0) hb); replace HO_8 := Aside0.mk (Kd.R_elder' (by (with_reducible repeat (first | apply Kd.R_alloc | apply Kd.R_drewN | apply Kd.R_drew)); exact HO_8.out) (Kd.R_base ho0) hb); replace BK101 := Aside0.mk (blk_below (g := gb101) (o := .cells #[.string a2_0, .int .i64 a2_1, .int .i64 a2_2, .int .i64 a2_3, .string a2_4, .string a2_5] 27 (0, 0)) xK hb); replace HB := Aside0.mk (below_step xB hb); (try clear hb); (try clear hb2); (try clear hk); (try clear hi); (try clear ho0)))
     go_loopg [11, 12] k2 (fun kq v11 v12 w' => ∃ (x11_3 : Bool) (x12_3 : Int), v11 = .bool x11_3 ∧ v12 = .int .i64 x12_3 ∧ Aside0 (armadalaw17_MvsDowns.l1 kq l0 t112 t127 x11_3 x12_3 a2_0 a2_1 a2_2 a2_3 a2_4 a2_5 = some r) ∧ Aside0 (kq ≤ k2) ∧ Aside0 (Kd.R k27 27 w' w.heap.size (fun k_ => some k_ ≠ (v128 : Value).ownBlock ∧ k_ ≠ gb101) (.slice Ao38 t112.length co38) t112) ∧ Aside0 (Kd.R k27 27 w' w.heap.size (fun k_ => some k_ ≠ ((.slice Ao38 t112.length co38) : Value).ownBlock ∧ k_ ≠ gb101) v128 t127) ∧ Aside0 (w'.heap[gb101]? = some (.cells #[.string a2_0, .int .i64 a2_1, .int .i64 a2_2, .int .i64 a2_3, .string a2_4, .string a2_5] 27 (0, 0))) ∧ Aside0 (Below w.heap.size w w'))
     case atStart => exact ⟨(true), (0), xR, xR, H', ⟨Nat.le_refl _⟩, ⟨by (with_reducible repeat (first | apply Kd.R_alloc | apply Kd.R_drewN | apply Kd.R_drew)); exact Kd.R_mono HO_7.out (fun _ hk => ⟨hk.2, hk.1.2⟩)⟩, ⟨by (with_reducible repeat (first | apply Kd.R_alloc | apply Kd.R_drewN | apply Kd.R_drew)); exact Kd.R_mono HO129.out (fun _ hk => ⟨hk.1.1.2, hk.2⟩)⟩, ⟨by (with_reducible repeat (first | refine blk_drewN ?_ _ | refine blk_drew ?_ | refine blk_alloc ?_ _)); exact BK101.out⟩, ⟨xB⟩⟩
     case round =>
      clear H'
      try clear c1
      try clear p1
      try clear q1
      try clear hx1
      try clear c2
      try clear p2
      try clear c4
      try clear c6
      try clear p6
      try clear c7
      try clear c9
      try clear c11
      try clear c12
      try clear p12
      try clear q12
      try clear hx12
      try clear c13
      try clear c17
      try clear c21
      try clear c26
      try clear c41
      try clear c41b0
      try clear c42
      try clear c42b0
      try clear c43
      try clear c43b0
      try clear c43b1
      try clear c45
      try clear c45b0
      try clear hcz12_0
      try clear hcz12_1
      try clear hcz12_2
      try clear hcz12_3
      try clear hcz12_4
      try clear hcz12_5
      try clear hcz17_0
      try clear hcz17_1
      try clear hcz17_2
      try clear hcz17_3
      try clear hcz17_4
      try clear hcz17_5
      try clear hcz20_0
      try clear hcz20_1
      try clear hcz20_2
      try clear hcz20_3
      try clear hcz20_4
      try clear hcz20_5
      try clear hfz12_0
      try clear hfz12_1
      try clear hfz12_2
      try clear hfz12_3
      try clear hfz12_4
      try clear hfz12_5
      try clear hfz17_0
      try clear hfz17_1
      try clear hfz17_2
      try clear hfz17_3
      try clear hfz17_4
      try clear hfz17_5
      try clear hfz20_0
      try clear hfz20_1
      try clear hfz20_2
      try clear hfz20_3
      try clear hfz20_4
      try clear hfz20_5
      try clear hx121_0
      try clear hx121_1
      try clear hx121_2
      try clear hx121_3
      try clear hx121_4
      try clear hx121_5
      try clear hx122_0
      try clear hx122_1
      try clear hx122_2
      try clear hx122_3
      try clear hx122_4
      try clear hx122_5
      try clear p121
      try clear p122
      try clear p2
      try clear q121
      try clear q122
      obtain ⟨x11_3, x12_3, rfl, rfl, HA, HK3, HO_7, HO_10, BK101, HB⟩ := hrel
      cases gk with
      | zero => exact absurd HA.out (by simp [armadalaw17_MvsDowns.l1])
      | succ k3 =>
       have H := HA.out
       clear HA
       simp only [armadalaw17_MvsDowns.l1] at H
       by_cases c57 : x12_3 < (t127.length : Int)
       ·
        rw [if_pos c57] at H
        have c57b0 := decide_eq_true c57
        clear c57
        by_cases c58 : x11_3 = true
        ·
         subst c58
         rw [if_pos rfl] at H
         replace H := xI H
         obtain ⟨c59, H⟩ := H
         have c59b0 := decide_eq_true c59
         clear c59
         by_cases c60 : ((rd_T27 t127 x12_3).f0).toList = a2_0.toList
         ·
          rw [if_pos c60] at H
          have c60b0 := beq_iff_eq.mpr c60
          have c60b1 := bne_eq_false_iff_eq.mpr c60
          clear c60
          replace H := xb H
          obtain ⟨t132, A61, H⟩ := H
          have H' := Aside0.mk H
          clear H
          obtain ⟨Ao62, co62, eo62⟩ := Kd.R_slice HO_10.out
          subst eo62
          try go_wp2
          have n0_ := Aside0.mk (Kd.R_drew HO_7.out)
          have n1_ := Aside0.mk (Kd.R_drew HO_10.out)
          have n2_ := Aside0.mk (blk_drew BK101.out)
          have n3_ := Aside0.mk (below_drew1 HB.out)
          clear HO_7
          clear HO_10
          clear BK101
          clear HB
          have HO_7 := n0_
          have HO_10 := n1_
          have BK101 := n2_
          have HB := n3_
          clear n0_ n1_ n2_ n3_
          have p130 : 0 ≤ (x12_3 : Int) := xD
          have q130 : x12_3 < (t127.length : Int) := xD
          obtain ⟨ad130, e130, hx130_0, hx130_1, hx130_2, hx130_3, hx130_4, hx130_5⟩ := at_T27 (Kd.R_reads' HO_10.out).2.2 x12_3 p130 q130
          cases e130
          replace p130 := eq_true p130
          replace q130 := eq_true q130
          have p131 : 0 ≤ (x12_3 : Int) := xD
          have q131 : x12_3 < (t127.length : Int) := xD
          obtain ⟨ad131, e131, hx131_0, hx131_1, hx131_2, hx131_3, hx131_4, hx131_5⟩ := at_T27 (Kd.R_reads' HO_10.out).2.2 x12_3 p131 q131
          obtain rfl : ad130 = ad131 := (by injection e131)
          replace p131 := eq_true p131
          replace q131 := eq_true q131
          refine start_ (n := 23) (S := fun w' => w'.cell? ⟨gb101, 0, none⟩ = some (.string a2_0) ∧ w'.cell? ⟨gb101, 1, none⟩ = some (.int .i64 a2_1) ∧ w'.cell? ⟨gb101, 2, none⟩ = some (.int .i64 a2_2) ∧ w'.cell? ⟨gb101, 3, none⟩ = some (.int .i64 a2_3) ∧ w'.cell? ⟨gb101, 4, none⟩ = some (.string a2_4) ∧ w'.cell? ⟨gb101, 5, none⟩ = some (.string a2_5) ∧ w'.cell? (ad130.add ((x12_3).toNat * 6)) = some (.string ((rd_T27 t127 x12_3).f0)) ∧ w'.cell? ⟨(ad130.add ((x12_3).toNat * 6)).block, (ad130.add ((x12_3).toNat * 6)).off + 1, none⟩ = some (.int .i64 ((rd_T27 t127 x12_3).f1.f0)) ∧ w'.cell? ⟨(ad130.add ((x12_3).toNat * 6)).block, (ad130.add ((x12_3).toNat * 6)).off + 2, none⟩ = some (.int .i64 ((rd_T27 t127 x12_3).f1.f1)) ∧ w'.cell? ⟨(ad130.add ((x12_3).toNat * 6)).block, (ad130.add ((x12_3).toNat * 6)).off + 3, none⟩ = some (.int .i64 ((rd_T27 t127 x12_3).f1.f2)) ∧ w'.cell? ⟨(ad130.add ((x12_3).toNat * 6)).block, (ad130.add ((x12_3).toNat * 6)).off + 4, none⟩ = some (.string ((rd_T27 t127 x12_3).f1.f3)) ∧ w'.cell? ⟨(ad130.add ((x12_3).toNat * 6)).block, (ad130.add ((x12_3).toNat * 6)).off + 5, none⟩ = some (.string ((rd_T27 t127 x12_3).f1.f4)) ∧ w'.cell? (ad130.add ((x12_3).toNat * 6)) = some (.string ((rd_T27 t127 x12_3).f0)) ∧ w'.cell? ⟨(ad130.add ((x12_3).toNat * 6)).block, (ad130.add ((x12_3).toNat * 6)).off + 1, none⟩ = some (.int .i64 ((rd_T27 t127 x12_3).f1.f0)) ∧ w'.cell? ⟨(ad130.add ((x12_3).toNat * 6)).block, (ad130.add ((x12_3).toNat * 6)).off + 2, none⟩ = some (.int .i64 ((rd_T27 t127 x12_3).f1.f1)) ∧ w'.cell? ⟨(ad130.add ((x12_3).toNat * 6)).block, (ad130.add ((x12_3).toNat * 6)).off + 3, none⟩ = some (.int .i64 ((rd_T27 t127 x12_3).f1.f2)) ∧ w'.cell? ⟨(ad130.add ((x12_3).toNat * 6)).block, (ad130.add ((x12_3).toNat * 6)).off + 4, none⟩ = some (.string ((rd_T27 t127 x12_3).f1.f3)) ∧ w'.cell? ⟨(ad130.add ((x12_3).toNat * 6)).block, (ad130.add ((x12_3).toNat * 6)).off + 5, none⟩ = some (.string ((rd_T27 t127 x12_3).f1.f4))) (ds := []) #[ff, ff, ff, ff, ff, ff, ff, ff, ff, ff, ff, ff, ff, ff, ff, ff, ff, ff, ff, ff, ff, ff, ff] (by kernel_rfl) rfl rfl ⟨(blk_cell BK101.out 0).trans rfl, (blk_cell BK101.out 1).trans rfl, (blk_cell BK101.out 2).trans rfl, (blk_cell BK101.out 3).trans rfl, (blk_cell BK101.out 4).trans rfl, (blk_cell BK101.out 5).trans rfl, hx130_0, hx130_1, hx130_2, hx130_3, hx130_4, hx130_5, hx131_0, hx131_1, hx131_2, hx131_3, hx131_4, hx131_5⟩ (fun hHeld => ?_); refine with_tabW armadalaw17_MvsDowns.tab15 armadalaw17_MvsDowns.bits15 (fun HT_ HW_ => ?_)
          generalize wr.drew = w63 at HO_7 HO_10 BK101 HB hx130_0 hx130_1 hx130_2 hx130_3 hx130_4 hx130_5 hx131_0 hx131_1 hx131_2 hx131_3 hx131_4 hx131_5 hHeld ⊢
          refine pure_ (i := 0) (N := some 73) (v := ?_) (a' := ?_) #[tt, ff, ff, ff, ff, ff, ff, ff, ff, ff, ff, ff, ff, ff, ff, ff, ff, ff, ff, ff, ff, ff, ff] rfl rfl (any_of HT_.out (by kernel_rfl)) (fun _ _ _ h => h) (Or.inl ⟨by rfl, ?_⟩) ?_ ?_
          rotate_left
          ·
           intro w'
           go_simp
           with_reducible rfl
          rotate_left
          ·
           simp only [Act.put, List.setIfInBounds_toArray, List.set_cons_zero, List.set_cons_succ, i64_w, i32_w]
           rfl
          refine pure_ (i := 1) (N := some 74) (v := ?_) (a' := ?_) #[tt, tt, ff, ff, ff, ff, ff, ff, ff, ff, ff, ff, ff, ff, ff, ff, ff, ff, ff, ff, ff, ff, ff] rfl rfl (any_of HT_.out (by kernel_rfl)) (fun _ _ _ h => h) (Or.inl ⟨by rfl, ?_⟩) ?_ ?_
          rotate_left
          ·
           intro w'
           go_simp
           with_reducible rfl
          rotate_left
          ·
           simp only [Act.put, List.setIfInBounds_toArray, List.set_cons_zero, List.set_cons_succ, i64_w, i32_w]
           rfl
          refine pure_ (i := 2) (N := some 75) (v := ?_) (a' := ?_) #[tt, tt, tt, ff, ff, ff, ff, ff, ff, ff, ff, ff, ff, ff, ff, ff, ff, ff, ff, ff, ff, ff, ff] rfl rfl (any_of HT_.out (by kernel_rfl)) (fun _ _ _ h => h) (Or.inl ⟨by rfl, ?_⟩) ?_ ?_
          rotate_left
          ·
           intro w'
           go_simp
           with_reducible rfl
          rotate_left
          ·
           simp only [Act.put, List.setIfInBounds_toArray, List.set_cons_zero, List.set_cons_succ, i64_w, i32_w]
           rfl
          refine pure_ (i := 3) (N := some 76) (v := ?_) (a' := ?_) #[tt, tt, tt, tt, ff, ff, ff, ff, ff, ff, ff, ff, ff, ff, ff, ff, ff, ff, ff, ff, ff, ff, ff] rfl rfl (any_of HT_.out (by kernel_rfl)) (fun _ _ _ h => h) (Or.inl ⟨by rfl, ?_⟩) ?_ ?_
          rotate_left
          ·
           intro w'
           go_simp
           with_reducible rfl
          rotate_left
          ·
           simp only [Act.put, List.setIfInBounds_toArray, List.set_cons_zero, List.set_cons_succ, i64_w, i32_w]
           rfl
          refine pure_ (i := 4) (N := some 77) (v := ?_) (a' := ?_) #[tt, tt, tt, tt, tt, ff, ff, ff, ff, ff, ff, ff, ff, ff, ff, ff, ff, ff, ff, ff, ff, ff, ff] rfl rfl (any_of HT_.out (by kernel_rfl)) (fun _ _ _ h => h) (Or.inl ⟨by rfl, ?_⟩) ?_ ?_
          rotate_left
          ·
           intro w'
           go_simp
           with_reducible rfl
          rotate_left
          ·
           simp only [Act.put, List.setIfInBounds_toArray, List.set_cons_zero, List.set_cons_succ, i64_w, i32_w]
           rfl
          refine pure_ (i := 5) (N := some 78) (v := ?_) (a' := ?_) #[tt, tt, tt, tt, tt, tt, ff, ff, ff, ff, ff, ff, ff, ff, ff, ff, ff, ff, ff, ff, ff, ff, ff] rfl rfl (any_of HT_.out (by kernel_rfl)) (fun _ _ _ h => h) (Or.inl ⟨by rfl, ?_⟩) ?_ ?_
          rotate_left
          ·
           intro w'
           go_simp
           with_reducible rfl
          rotate_left
          ·
           simp only [Act.put, List.setIfInBounds_toArray, List.set_cons_zero, List.set_cons_succ, i64_w, i32_w]
           rfl
          refine pure_ (i := 7) (N := some 80) (v := ?_) (a' := ?_) #[tt, tt, tt, tt, tt, tt, ff, tt, ff, ff, ff, ff, ff, ff, ff, ff, ff, ff, ff, ff, ff, ff, ff] rfl rfl (any_of HT_.out (by kernel_rfl)) (fun _ _ _ h => h) (Or.inl ⟨by rfl, ?_⟩) ?_ ?_
          rotate_left
          ·
           intro w'
           go_simp
           with_reducible rfl
          rotate_left
          ·
           simp only [Act.put, List.setIfInBounds_toArray, List.set_cons_zero, List.set_cons_succ, i64_w, i32_w]
           rfl
          refine take_ (i := 6) (N := some 79) (v := ?_) (a' := ?_) #[tt, tt, tt, tt, tt, tt, tt, tt, ff, ff, ff, ff, ff, ff, ff, ff, ff, ff, ff, ff, ff, ff, ff] rfl rfl (take_ofW HT_.out HW_.out (by kernel_rfl)) (fun _ _ _ h => h) (Or.inl ⟨by rfl, ?_⟩) hHeld ?_ ?_
          rotate_left
          ·
           rintro w' ⟨s0, s1, s2, s3, s4, s5, s6, s7, s8, s9, s10, s11, s12, s13, s14, s15, s16, s17⟩
           go_simp
           with_reducible rfl
          rotate_left
          ·
           simp only [Act.put, List.setIfInBounds_toArray, List.set_cons_zero, List.set_cons_succ, i64_w, i32_w]
           rfl
          refine take_ (i := 8) (N := some 81) (v := ?_) (a' := ?_) #[tt, tt, tt, tt, tt, tt, tt, tt, tt, ff, ff, ff, ff, ff, ff, ff, ff, ff, ff, ff, ff, ff, ff] rfl rfl (take_ofW HT_.out HW_.out (by kernel_rfl)) (fun _ _ _ h => h) (Or.inl ⟨by rfl, ?_⟩) hHeld ?_ ?_
          rotate_left
          ·
           rintro w' ⟨s0, s1, s2, s3, s4, s5, s6, s7, s8, s9, s10, s11, s12, s13, s14, s15, s16, s17⟩
           go_simp
           with_reducible rfl
          rotate_left
          ·
           simp only [Act.put, List.setIfInBounds_toArray, List.set_cons_zero, List.set_cons_succ, i64_w, i32_w]
           rfl
          refine pure_ (i := 9) (N := some 82) (v := ?_) (a' := ?_) #[tt, tt, tt, tt, tt, tt, tt, tt, tt, tt, ff, ff, ff, ff, ff, ff, ff, ff, ff, ff, ff, ff, ff] rfl rfl (any_of HT_.out (by kernel_rfl)) (fun _ _ _ h => h) (Or.inl ⟨by rfl, ?_⟩) ?_ ?_
          rotate_left
          ·
           intro w'
           go_simp
           with_reducible rfl
          rotate_left
          ·
           simp only [Act.put, List.setIfInBounds_toArray, List.set_cons_zero, List.set_cons_succ, i64_w, i32_w]
           rfl
          refine pure_ (i := 10) (N := some 83) (v := ?_) (a' := ?_) #[tt, tt, tt, tt, tt, tt, tt, tt, tt, tt, tt, ff, ff, ff, ff, ff, ff, ff, ff, ff, ff, ff, ff] rfl rfl (any_of HT_.out (by kernel_rfl)) (fun _ _ _ h => h) (Or.inl ⟨by rfl, ?_⟩) ?_ ?_
          rotate_left
          ·
           intro w'
           go_simp
           with_reducible rfl
          rotate_left
          ·
           simp only [Act.put, List.setIfInBounds_toArray, List.set_cons_zero, List.set_cons_succ, i64_w, i32_w]
           rfl
          refine pure_ (i := 11) (N := some 84) (v := ?_) (a' := ?_) #[tt, tt, tt, tt, tt, tt, tt, tt, tt, tt, tt, tt, ff, ff, ff, ff, ff, ff, ff, ff, ff, ff, ff] rfl rfl (any_of HT_.out (by kernel_rfl)) (fun _ _ _ h => h) (Or.inl ⟨by rfl, ?_⟩) ?_ ?_
          rotate_left
          ·
           intro w'
           go_simp
           with_reducible rfl
          rotate_left
          ·
           simp only [Act.put, List.setIfInBounds_toArray, List.set_cons_zero, List.set_cons_succ, i64_w, i32_w]
           rfl
          refine pure_ (i := 12) (N := some 85) (v := ?_) (a' := ?_) #[tt, tt, tt, tt, tt, tt, tt, tt, tt, tt, tt, tt, tt, ff, ff, ff, ff, ff, ff, ff, ff, ff, ff] rfl rfl (any_of HT_.out (by kernel_rfl)) (fun _ _ _ h => h) (Or.inl ⟨by rfl, ?_⟩) ?_ ?_
          rotate_left
          ·
           intro w'
           go_simp
           with_reducible rfl
          rotate_left
          ·
           simp only [Act.put, List.setIfInBounds_toArray, List.set_cons_zero, List.set_cons_succ, i64_w, i32_w]
           rfl
          refine pure_ (i := 13) (N := some 86) (v := ?_) (a' := ?_) #[tt, tt, tt, tt, tt, tt, tt, tt, tt, tt, tt, tt, tt, tt, ff, ff, ff, ff, ff, ff, ff, ff, ff] rfl rfl (any_of HT_.out (by kernel_rfl)) (fun _ _ _ h => h) (Or.inl ⟨by rfl, ?_⟩) ?_ ?_
          rotate_left
          ·
           intro w'
           go_simp
           with_reducible rfl
          rotate_left
          ·
           simp only [Act.put, List.setIfInBounds_toArray, List.set_cons_zero, List.set_cons_succ, i64_w, i32_w]
           rfl
          refine pure_ (i := 14) (N := some 87) (v := ?_) (a' := ?_) #[tt, tt, tt, tt, tt, tt, tt, tt, tt, tt, tt, tt, tt, tt, tt, ff, ff, ff, ff, ff, ff, ff, ff] rfl rfl (any_of HT_.out (by kernel_rfl)) (fun _ _ _ h => h) (Or.inl ⟨by rfl, ?_⟩) ?_ ?_
          rotate_left
          ·
           intro w'
           go_simp
           with_reducible rfl
          rotate_left
          ·
           simp only [Act.put, List.setIfInBounds_toArray, List.set_cons_zero, List.set_cons_succ, i64_w, i32_w]
           rfl
          refine pure_ (i := 16) (N := some 89) (v := ?_) (a' := ?_) #[tt, tt, tt, tt, tt, tt, tt, tt, tt, tt, tt, tt, tt, tt, tt, ff, tt, ff, ff, ff, ff, ff, ff] rfl rfl (any_of HT_.out (by kernel_rfl)) (fun _ _ _ h => h) (Or.inl ⟨by rfl, ?_⟩) ?_ ?_
          rotate_left
          ·
           intro w'
           go_simp
           with_reducible rfl
          rotate_left
          ·
           simp only [Act.put, List.setIfInBounds_toArray, List.set_cons_zero, List.set_cons_succ, i64_w, i32_w]
           rfl
          refine take_ (i := 15) (N := some 88) (v := ?_) (a' := ?_) #[tt, tt, tt, tt, tt, tt, tt, tt, tt, tt, tt, tt, tt, tt, tt, tt, tt, ff, ff, ff, ff, ff, ff] rfl rfl (take_ofW HT_.out HW_.out (by kernel_rfl)) (fun _ _ _ h => h) (Or.inl ⟨by rfl, ?_⟩) hHeld ?_ ?_
          rotate_left
          ·
           rintro w' ⟨s0, s1, s2, s3, s4, s5, s6, s7, s8, s9, s10, s11, s12, s13, s14, s15, s16, s17⟩
           go_simp
           with_reducible rfl
          rotate_left
          ·
           simp only [Act.put, List.setIfInBounds_toArray, List.set_cons_zero, List.set_cons_succ, i64_w, i32_w]
           rfl
          refine take_ (i := 17) (N := some 90) (v := ?_) (a' := ?_) #[tt, tt, tt, tt, tt, tt, tt, tt, tt, tt, tt, tt, tt, tt, tt, tt, tt, tt, ff, ff, ff, ff, ff] rfl rfl (take_ofW HT_.out HW_.out (by kernel_rfl)) (fun _ _ _ h => h) (Or.inl ⟨by rfl, ?_⟩) hHeld ?_ ?_
          rotate_left
          ·
           rintro w' ⟨s0, s1, s2, s3, s4, s5, s6, s7, s8, s9, s10, s11, s12, s13, s14, s15, s16, s17⟩
           go_simp
           with_reducible rfl
          rotate_left
          ·
           simp only [Act.put, List.setIfInBounds_toArray, List.set_cons_zero, List.set_cons_succ, i64_w, i32_w]
           rfl
          refine one_ (i := 18) (N := some 91) #[tt, tt, tt, tt, tt, tt, tt, tt, tt, tt, tt, tt, tt, tt, tt, tt, tt, tt, tt, ff, ff, ff, ff] rfl rfl (one_of HT_.out (by kernel_rfl)) (by decide) (fun K hK => ?_)
          refine goes_ Tryz.func26 (by kernel_rfl) rfl #[.agg #[.int .i64 ((rd_T27 t127 x12_3).f1.f0), .int .i64 ((rd_T27 t127 x12_3).f1.f1), .int .i64 ((rd_T27 t127 x12_3).f1.f2), .string ((rd_T27 t127 x12_3).f1.f3), .string ((rd_T27 t127 x12_3).f1.f4)], .agg #[.int .i64 a2_1, .int .i64 a2_2, .int .i64 a2_3, .string a2_4, .string a2_5]] (by rfl) rfl rfl xS ?_
          with_reducible refine (armadaref07_Compare.calls k3 ((rd_T27 t127 x12_3).f1.f0) ((rd_T27 t127 x12_3).f1.f1) ((rd_T27 t127 x12_3).f1.f2) ((rd_T27 t127 x12_3).f1.f3) ((rd_T27 t127 x12_3).f1.f4) a2_1 a2_2 a2_3 a2_4 a2_5 t132 _ A61.out).mono ?_
          rintro e w64 ⟨rfl, hb⟩
          have HS6_ := (hb.cell (World.block_lt_of_cell? _ _ (hHeld.2.2.2.2.2.2.1))).trans (hHeld.2.2.2.2.2.2.1)
          have HS7_ := (hb.cell (World.block_lt_of_cell? _ _ (hHeld.2.2.2.2.2.2.2.1))).trans (hHeld.2.2.2.2.2.2.2.1)
          have HS8_ := (hb.cell (World.block_lt_of_cell? _ _ (hHeld.2.2.2.2.2.2.2.2.1))).trans (hHeld.2.2.2.2.2.2.2.2.1)
          have HS9_ := (hb.cell (World.block_lt_of_cell? _ _ (hHeld.2.2.2.2.2.2.2.2.2.1))).trans (hHeld.2.2.2.2.2.2.2.2.2.1)
          have HS10_ := (hb.cell (World.block_lt_of_cell? _ _ (hHeld.2.2.2.2.2.2.2.2.2.2.1))).trans (hHeld.2.2.2.2.2.2.2.2.2.2.1)
          have HS11_ := (hb.cell (World.block_lt_of_cell? _ _ (hHeld.2.2.2.2.2.2.2.2.2.2.2.1))).trans (hHeld.2.2.2.2.2.2.2.2.2.2.2.1)
          have HS12_ := (hb.cell (World.block_lt_of_cell? _ _ (hHeld.2.2.2.2.2.2.2.2.2.2.2.2.1))).trans (hHeld.2.2.2.2.2.2.2.2.2.2.2.2.1)
          have HS13_ := (hb.cell (World.block_lt_of_cell? _ _ (hHeld.2.2.2.2.2.2.2.2.2.2.2.2.2.1))).trans (hHeld.2.2.2.2.2.2.2.2.2.2.2.2.2.1)
          have HS14_ := (hb.cell (World.block_lt_of_cell? _ _ (hHeld.2.2.2.2.2.2.2.2.2.2.2.2.2.2.1))).trans (hHeld.2.2.2.2.2.2.2.2.2.2.2.2.2.2.1)
          have HS15_ := (hb.cell (World.block_lt_of_cell? _ _ (hHeld.2.2.2.2.2.2.2.2.2.2.2.2.2.2.2.1))).trans (hHeld.2.2.2.2.2.2.2.2.2.2.2.2.2.2.2.1)
          have HS16_ := (hb.cell (World.block_lt_of_cell? _ _ (hHeld.2.2.2.2.2.2.2.2.2.2.2.2.2.2.2.2.1))).trans (hHeld.2.2.2.2.2.2.2.2.2.2.2.2.2.2.2.2.1)
          have HS17_ := (hb.cell (World.block_lt_of_cell? _ _ (hHeld.2.2.2.2.2.2.2.2.2.2.2.2.2.2.2.2.2))).trans (hHeld.2.2.2.2.2.2.2.2.2.2.2.2.2.2.2.2.2)
          refine ⟨_, rfl, ?_⟩
          have n0_ := Aside0.mk (Kd.R_below (by (with_reducible repeat (first | apply Kd.R_alloc | apply Kd.R_drewN | apply Kd.R_drew)); exact HO_7.out) hb)
          have n1_ := Aside0.mk (Kd.R_below (by (with_reducible repeat (first | apply Kd.R_alloc | apply Kd.R_drewN | apply Kd.R_drew)); exact HO_10.out) hb)
          have n2_ := Aside0.mk (blk_below (g := gb101) (o := .cells #[.string a2_0, .int .i64 a2_1, .int .i64 a2_2, .int .i64 a2_3, .string a2_4, .string a2_5] 27 (0, 0)) xK hb)
          have n3_ := Aside0.mk (below_step xB hb)
          clear HO_7
          clear HO_10
          clear BK101
          clear HB
          have HO_7 := n0_
          have HO_10 := n1_
          have BK101 := n2_
          have HB := n3_
          clear n0_ n1_ n2_ n3_
          (try clear hb)
          (try clear hb2)
          (try clear hk)
          (try clear hi)
          refine hK.out _ _ ⟨(blk_cell BK101.out 0).trans rfl, (blk_cell BK101.out 1).trans rfl, (blk_cell BK101.out 2).trans rfl, (blk_cell BK101.out 3).trans rfl, (blk_cell BK101.out 4).trans rfl, (blk_cell BK101.out 5).trans rfl, HS6_, HS7_, HS8_, HS9_, HS10_, HS11_, HS12_, HS13_, HS14_, HS15_, HS16_, HS17_⟩ (fun hHeld => ?_)
          clear hK K
          refine norm_ (a' := ?_) ?_ ?_
          rotate_left
          ·
           show Act.put _ (some 91) _ = _
           simp only [Act.put, List.setIfInBounds_toArray, List.set_cons_zero, List.set_cons_succ, i64_w, i32_w]
           rfl
          refine pure_ (i := 19) (N := some 92) (v := ?_) (a' := ?_) #[tt, tt, tt, tt, tt, tt, tt, tt, tt, tt, tt, tt, tt, tt, tt, tt, tt, tt, tt, tt, ff, ff, ff] rfl rfl (any_of HT_.out (by kernel_rfl)) (fun _ _ _ h => h) (Or.inl ⟨by rfl, ?_⟩) ?_ ?_
          rotate_left
          ·
           intro w'
           go_simp
           with_reducible rfl
          rotate_left
          ·
           simp only [Act.put, List.setIfInBounds_toArray, List.set_cons_zero, List.set_cons_succ, i64_w, i32_w]
           rfl
          refine pure_ (i := 20) (N := some 93) (v := ?_) (a' := ?_) #[tt, tt, tt, tt, tt, tt, tt, tt, tt, tt, tt, tt, tt, tt, tt, tt, tt, tt, tt, tt, tt, ff, ff] rfl rfl (any_of HT_.out (by kernel_rfl)) (fun _ _ _ h => h) (Or.inl ⟨by rfl, ?_⟩) ?_ ?_
          rotate_left
          ·
           intro w'
           go_simp
           with_reducible rfl
          rotate_left
          ·
           simp only [Act.put, List.setIfInBounds_toArray, List.set_cons_zero, List.set_cons_succ, i64_w, i32_w]
           rfl
          refine pure_ (i := 21) (N := some 94) (v := ?_) (a' := ?_) #[tt, tt, tt, tt, tt, tt, tt, tt, tt, tt, tt, tt, tt, tt, tt, tt, tt, tt, tt, tt, tt, tt, ff] rfl rfl (any_of HT_.out (by kernel_rfl)) (fun _ _ _ h => h) (Or.inl ⟨by rfl, ?_⟩) ?_ ?_
          rotate_left
          ·
           intro w'
           go_simp
           with_reducible rfl
          rotate_left
          ·
           simp only [Act.put, List.setIfInBounds_toArray, List.set_cons_zero, List.set_cons_succ, i64_w, i32_w]
           rfl
          refine pure_ (i := 22) (N := some 11) (v := ?_) (a' := ?_) #[tt, tt, tt, tt, tt, tt, tt, tt, tt, tt, tt, tt, tt, tt, tt, tt, tt, tt, tt, tt, tt, tt, tt] rfl rfl (any_of HT_.out (by kernel_rfl)) (fun _ _ _ h => h) (Or.inl ⟨by rfl, ?_⟩) ?_ ?_
          rotate_left
          ·
           intro w'
           go_simp
           with_reducible rfl
          rotate_left
          ·
           simp only [Act.put, List.setIfInBounds_toArray, List.set_cons_zero, List.set_cons_succ, i64_w, i32_w]
           rfl
          refine done_ (done_of HT_.out (by kernel_rfl)) ?_
          try go_wp2
          go_roundg k3
          case measure => have := HJ3.out; have := HK2.out; have := HK3.out; omega
          case rel => exact ⟨(decide (t132 ≤ 0)), (wrap64 (x12_3 + 1)), xR, xR, H', ⟨by have := HJ3.out; have := HK2.out; have := HK3.out; omega⟩, ⟨by (with_reducible repeat (first | apply Kd.R_alloc | apply Kd.R_drewN | apply Kd.R_drew)); exact HO_7.out⟩, ⟨by (with_reducible repeat (first | apply Kd.R_alloc | apply Kd.R_drewN | apply Kd.R_drew)); exact HO_10.out⟩, ⟨by (with_reducible repeat (first | refine blk_drewN ?_ _ | refine blk_drew ?_ | refine blk_alloc ?_ _)); exact BK101.out⟩, ⟨xB⟩⟩
         rw [if_neg c60] at H
         have c60b0 := beq_eq_false_iff_ne.mpr c60
         have c60b1 := bne_iff_ne.mpr c60
         have H' := Aside0.mk H
         clear H
         obtain ⟨Ao65, co65, eo65⟩ := Kd.R_slice HO_10.out
         subst eo65
         try go_wp2
         have n0_ := Aside0.mk (Kd.R_drew HO_7.out)
         have n1_ := Aside0.mk (Kd.R_drew HO_10.out)
         have n2_ := Aside0.mk (blk_drew BK101.out)
         have n3_ := Aside0.mk (below_drew1 HB.out)
         clear HO_7
         clear HO_10
         clear BK101
         clear HB
         have HO_7 := n0_
         have HO_10 := n1_
         have BK101 := n2_
         have HB := n3_
         clear n0_ n1_ n2_ n3_
         have p130 : 0 ≤ (x12_3 : Int) := xD
         have q130 : x12_3 < (t127.length : Int) := xD
         obtain ⟨ad130, e130, hx130_0, hx130_1, hx130_2, hx130_3, hx130_4, hx130_5⟩ := at_T27 (Kd.R_reads' HO_10.out).2.2 x12_3 p130 q130
         cases e130
         replace p130 := eq_true p130
         replace q130 := eq_true q130
         refine start_ (n := 23) (S := fun w' => w'.cell? ⟨gb101, 0, none⟩ = some (.string a2_0) ∧ w'.cell? ⟨gb101, 1, none⟩ = some (.int .i64 a2_1) ∧ w'.cell? ⟨gb101, 2, none⟩ = some (.int .i64 a2_2) ∧ w'.cell? ⟨gb101, 3, none⟩ = some (.int .i64 a2_3) ∧ w'.cell? ⟨gb101, 4, none⟩ = some (.string a2_4) ∧ w'.cell? ⟨gb101, 5, none⟩ = some (.string a2_5) ∧ w'.cell? (ad130.add ((x12_3).toNat * 6)) = some (.string ((rd_T27 t127 x12_3).f0)) ∧ w'.cell? ⟨(ad130.add ((x12_3).toNat * 6)).block, (ad130.add ((x12_3).toNat * 6)).off + 1, none⟩ = some (.int .i64 ((rd_T27 t127 x12_3).f1.f0)) ∧ w'.cell? ⟨(ad130.add ((x12_3).toNat * 6)).block, (ad130.add ((x12_3).toNat * 6)).off + 2, none⟩ = some (.int .i64 ((rd_T27 t127 x12_3).f1.f1)) ∧ w'.cell? ⟨(ad130.add ((x12_3).toNat * 6)).block, (ad130.add ((x12_3).toNat * 6)).off + 3, none⟩ = some (.int .i64 ((rd_T27 t127 x12_3).f1.f2)) ∧ w'.cell? ⟨(ad130.add ((x12_3).toNat * 6)).block, (ad130.add ((x12_3).toNat * 6)).off + 4, none⟩ = some (.string ((rd_T27 t127 x12_3).f1.f3)) ∧ w'.cell? ⟨(ad130.add ((x12_3).toNat * 6)).block, (ad130.add ((x12_3).toNat * 6)).off + 5, none⟩ = some (.string ((rd_T27 t127 x12_3).f1.f4))) (ds := []) #[ff, ff, ff, ff, ff, ff, ff, ff, ff, ff, ff, ff, ff, ff, ff, ff, ff, ff, ff, ff, ff, ff, ff] (by kernel_rfl) rfl rfl ⟨(blk_cell BK101.out 0).trans rfl, (blk_cell BK101.out 1).trans rfl, (blk_cell BK101.out 2).trans rfl, (blk_cell BK101.out 3).trans rfl, (blk_cell BK101.out 4).trans rfl, (blk_cell BK101.out 5).trans rfl, hx130_0, hx130_1, hx130_2, hx130_3, hx130_4, hx130_5⟩ (fun hHeld => ?_); refine with_tabW armadalaw17_MvsDowns.tab15 armadalaw17_MvsDowns.bits15 (fun HT_ HW_ => ?_)
         generalize wr.drew = w66 at HO_7 HO_10 BK101 HB hx130_0 hx130_1 hx130_2 hx130_3 hx130_4 hx130_5 hHeld ⊢
         refine pure_ (i := 0) (N := some 73) (v := ?_) (a' := ?_) #[tt, ff, ff, ff, ff, ff, ff, ff, ff, ff, ff, ff, ff, ff, ff, ff, ff, ff, ff, ff, ff, ff, ff] rfl rfl (any_of HT_.out (by kernel_rfl)) (fun _ _ _ h => h) (Or.inl ⟨by rfl, ?_⟩) ?_ ?_
         rotate_left
         ·
          intro w'
          go_simp
          with_reducible rfl
         rotate_left
         ·
          simp only [Act.put, List.setIfInBounds_toArray, List.set_cons_zero, List.set_cons_succ, i64_w, i32_w]
          rfl
         refine pure_ (i := 1) (N := some 74) (v := ?_) (a' := ?_) #[tt, tt, ff, ff, ff, ff, ff, ff, ff, ff, ff, ff, ff, ff, ff, ff, ff, ff, ff, ff, ff, ff, ff] rfl rfl (any_of HT_.out (by kernel_rfl)) (fun _ _ _ h => h) (Or.inl ⟨by rfl, ?_⟩) ?_ ?_
         rotate_left
         ·
          intro w'
          go_simp
          with_reducible rfl
         rotate_left
         ·
          simp only [Act.put, List.setIfInBounds_toArray, List.set_cons_zero, List.set_cons_succ, i64_w, i32_w]
          rfl
         refine pure_ (i := 2) (N := some 75) (v := ?_) (a' := ?_) #[tt, tt, tt, ff, ff, ff, ff, ff, ff, ff, ff, ff, ff, ff, ff, ff, ff, ff, ff, ff, ff, ff, ff] rfl rfl (any_of HT_.out (by kernel_rfl)) (fun _ _ _ h => h) (Or.inl ⟨by rfl, ?_⟩) ?_ ?_
         rotate_left
         ·
          intro w'
          go_simp
          with_reducible rfl
         rotate_left
         ·
          simp only [Act.put, List.setIfInBounds_toArray, List.set_cons_zero, List.set_cons_succ, i64_w, i32_w]
          rfl
         refine pure_ (i := 3) (N := some 76) (v := ?_) (a' := ?_) #[tt, tt, tt, tt, ff, ff, ff, ff, ff, ff, ff, ff, ff, ff, ff, ff, ff, ff, ff, ff, ff, ff, ff] rfl rfl (any_of HT_.out (by kernel_rfl)) (fun _ _ _ h => h) (Or.inl ⟨by rfl, ?_⟩) ?_ ?_
         rotate_left
         ·
          intro w'
          go_simp
          with_reducible rfl
         rotate_left
         ·
          simp only [Act.put, List.setIfInBounds_toArray, List.set_cons_zero, List.set_cons_succ, i64_w, i32_w]
          rfl
         refine pure_ (i := 4) (N := some 77) (v := ?_) (a' := ?_) #[tt, tt, tt, tt, tt, ff, ff, ff, ff, ff, ff, ff, ff, ff, ff, ff, ff, ff, ff, ff, ff, ff, ff] rfl rfl (any_of HT_.out (by kernel_rfl)) (fun _ _ _ h => h) (Or.inl ⟨by rfl, ?_⟩) ?_ ?_
         rotate_left
         ·
          intro w'
          go_simp
          with_reducible rfl
         rotate_left
         ·
          simp only [Act.put, List.setIfInBounds_toArray, List.set_cons_zero, List.set_cons_succ, i64_w, i32_w]
          rfl
         refine pure_ (i := 5) (N := some 78) (v := ?_) (a' := ?_) #[tt, tt, tt, tt, tt, tt, ff, ff, ff, ff, ff, ff, ff, ff, ff, ff, ff, ff, ff, ff, ff, ff, ff] rfl rfl (any_of HT_.out (by kernel_rfl)) (fun _ _ _ h => h) (Or.inl ⟨by rfl, ?_⟩) ?_ ?_
         rotate_left
         ·
          intro w'
          go_simp
          with_reducible rfl
         rotate_left
         ·
          simp only [Act.put, List.setIfInBounds_toArray, List.set_cons_zero, List.set_cons_succ, i64_w, i32_w]
          rfl
         refine pure_ (i := 7) (N := some 80) (v := ?_) (a' := ?_) #[tt, tt, tt, tt, tt, tt, ff, tt, ff, ff, ff, ff, ff, ff, ff, ff, ff, ff, ff, ff, ff, ff, ff] rfl rfl (any_of HT_.out (by kernel_rfl)) (fun _ _ _ h => h) (Or.inl ⟨by rfl, ?_⟩) ?_ ?_
         rotate_left
         ·
          intro w'
          go_simp
          with_reducible rfl
         rotate_left
         ·
          simp only [Act.put, List.setIfInBounds_toArray, List.set_cons_zero, List.set_cons_succ, i64_w, i32_w]
          rfl
         refine take_ (i := 6) (N := some 79) (v := ?_) (a' := ?_) #[tt, tt, tt, tt, tt, tt, tt, tt, ff, ff, ff, ff, ff, ff, ff, ff, ff, ff, ff, ff, ff, ff, ff] rfl rfl (take_ofW HT_.out HW_.out (by kernel_rfl)) (fun _ _ _ h => h) (Or.inl ⟨by rfl, ?_⟩) hHeld ?_ ?_
         rotate_left
         ·
          rintro w' ⟨s0, s1, s2, s3, s4, s5, s6, s7, s8, s9, s10, s11⟩
          go_simp
          with_reducible rfl
         rotate_left
         ·
          simp only [Act.put, List.setIfInBounds_toArray, List.set_cons_zero, List.set_cons_succ, i64_w, i32_w]
          rfl
         refine take_ (i := 8) (N := some 81) (v := ?_) (a' := ?_) #[tt, tt, tt, tt, tt, tt, tt, tt, tt, ff, ff, ff, ff, ff, ff, ff, ff, ff, ff, ff, ff, ff, ff] rfl rfl (take_ofW HT_.out HW_.out (by kernel_rfl)) (fun _ _ _ h => h) (Or.inl ⟨by rfl, ?_⟩) hHeld ?_ ?_
         rotate_left
         ·
          rintro w' ⟨s0, s1, s2, s3, s4, s5, s6, s7, s8, s9, s10, s11⟩
          go_simp
          with_reducible rfl
         rotate_left
         ·
          simp only [Act.put, List.setIfInBounds_toArray, List.set_cons_zero, List.set_cons_succ, i64_w, i32_w]
          rfl
         refine pure_ (i := 9) (N := some 82) (v := ?_) (a' := ?_) #[tt, tt, tt, tt, tt, tt, tt, tt, tt, tt, ff, ff, ff, ff, ff, ff, ff, ff, ff, ff, ff, ff, ff] rfl rfl (any_of HT_.out (by kernel_rfl)) (fun _ _ _ h => h) (Or.inl ⟨by rfl, ?_⟩) ?_ ?_
         rotate_left
         ·
          intro w'
          go_simp
          with_reducible rfl
         rotate_left
         ·
          simp only [Act.put, List.setIfInBounds_toArray, List.set_cons_zero, List.set_cons_succ, i64_w, i32_w]
          rfl
         refine pure_ (i := 10) (N := some 83) (v := ?_) (a' := ?_) #[tt, tt, tt, tt, tt, tt, tt, tt, tt, tt, tt, ff, ff, ff, ff, ff, ff, ff, ff, ff, ff, ff, ff] rfl rfl (any_of HT_.out (by kernel_rfl)) (fun _ _ _ h => h) (Or.inl ⟨by rfl, ?_⟩) ?_ ?_
         rotate_left
         ·
          intro w'
          go_simp
          with_reducible rfl
         rotate_left
         ·
          simp only [Act.put, List.setIfInBounds_toArray, List.set_cons_zero, List.set_cons_succ, i64_w, i32_w]
          rfl
         refine pure_ (i := 11) (N := some 84) (v := undef) (a' := ?_) #[tt, tt, tt, tt, tt, tt, tt, tt, tt, tt, tt, tt, ff, ff, ff, ff, ff, ff, ff, ff, ff, ff, ff] rfl rfl (any_of HT_.out (by kernel_rfl)) (fun _ _ _ h => h) (Or.inr ⟨by rfl, rfl⟩) ?_ ?_
         rotate_left
         ·
          simp only [Act.put, List.setIfInBounds_toArray, List.set_cons_zero, List.set_cons_succ, i64_w, i32_w]
          rfl
         refine pure_ (i := 12) (N := some 85) (v := undef) (a' := ?_) #[tt, tt, tt, tt, tt, tt, tt, tt, tt, tt, tt, tt, tt, ff, ff, ff, ff, ff, ff, ff, ff, ff, ff] rfl rfl (any_of HT_.out (by kernel_rfl)) (fun _ _ _ h => h) (Or.inr ⟨by rfl, rfl⟩) ?_ ?_
         rotate_left
         ·
          simp only [Act.put, List.setIfInBounds_toArray, List.set_cons_zero, List.set_cons_succ, i64_w, i32_w]
          rfl
         refine pure_ (i := 13) (N := some 86) (v := undef) (a' := ?_) #[tt, tt, tt, tt, tt, tt, tt, tt, tt, tt, tt, tt, tt, tt, ff, ff, ff, ff, ff, ff, ff, ff, ff] rfl rfl (any_of HT_.out (by kernel_rfl)) (fun _ _ _ h => h) (Or.inr ⟨by rfl, rfl⟩) ?_ ?_
         rotate_left
         ·
          simp only [Act.put, List.setIfInBounds_toArray, List.set_cons_zero, List.set_cons_succ, i64_w, i32_w]
          rfl
         refine pure_ (i := 14) (N := some 87) (v := undef) (a' := ?_) #[tt, tt, tt, tt, tt, tt, tt, tt, tt, tt, tt, tt, tt, tt, tt, ff, ff, ff, ff, ff, ff, ff, ff] rfl rfl (any_of HT_.out (by kernel_rfl)) (fun _ _ _ h => h) (Or.inr ⟨by rfl, rfl⟩) ?_ ?_
         rotate_left
         ·
          simp only [Act.put, List.setIfInBounds_toArray, List.set_cons_zero, List.set_cons_succ, i64_w, i32_w]
          rfl
         refine pure_ (i := 15) (N := some 88) (v := undef) (a' := ?_) #[tt, tt, tt, tt, tt, tt, tt, tt, tt, tt, tt, tt, tt, tt, tt, tt, ff, ff, ff, ff, ff, ff, ff] rfl rfl (any_of HT_.out (by kernel_rfl)) (fun _ _ _ h => h) (Or.inr ⟨by rfl, rfl⟩) ?_ ?_
         rotate_left
         ·
          simp only [Act.put, List.setIfInBounds_toArray, List.set_cons_zero, List.set_cons_succ, i64_w, i32_w]
          rfl
         refine pure_ (i := 16) (N := some 89) (v := undef) (a' := ?_) #[tt, tt, tt, tt, tt, tt, tt, tt, tt, tt, tt, tt, tt, tt, tt, tt, tt, ff, ff, ff, ff, ff, ff] rfl rfl (any_of HT_.out (by kernel_rfl)) (fun _ _ _ h => h) (Or.inr ⟨by rfl, rfl⟩) ?_ ?_
         rotate_left
         ·
          simp only [Act.put, List.setIfInBounds_toArray, List.set_cons_zero, List.set_cons_succ, i64_w, i32_w]
          rfl
         refine pure_ (i := 17) (N := some 90) (v := undef) (a' := ?_) #[tt, tt, tt, tt, tt, tt, tt, tt, tt, tt, tt, tt, tt, tt, tt, tt, tt, tt, ff, ff, ff, ff, ff] rfl rfl (any_of HT_.out (by kernel_rfl)) (fun _ _ _ h => h) (Or.inr ⟨by rfl, rfl⟩) ?_ ?_
         rotate_left
         ·
          simp only [Act.put, List.setIfInBounds_toArray, List.set_cons_zero, List.set_cons_succ, i64_w, i32_w]
          rfl
         refine pure_ (i := 18) (N := some 91) (v := undef) (a' := ?_) #[tt, tt, tt, tt, tt, tt, tt, tt, tt, tt, tt, tt, tt, tt, tt, tt, tt, tt, tt, ff, ff, ff, ff] rfl rfl (any_of HT_.out (by kernel_rfl)) (fun _ _ _ h => h) (Or.inr ⟨by rfl, rfl⟩) ?_ ?_
         rotate_left
         ·
          simp only [Act.put, List.setIfInBounds_toArray, List.set_cons_zero, List.set_cons_succ, i64_w, i32_w]
          rfl
         refine pure_ (i := 19) (N := some 92) (v := undef) (a' := ?_) #[tt, tt, tt, tt, tt, tt, tt, tt, tt, tt, tt, tt, tt, tt, tt, tt, tt, tt, tt, tt, ff, ff, ff] rfl rfl (any_of HT_.out (by kernel_rfl)) (fun _ _ _ h => h) (Or.inr ⟨by rfl, rfl⟩) ?_ ?_
         rotate_left
         ·
          simp only [Act.put, List.setIfInBounds_toArray, List.set_cons_zero, List.set_cons_succ, i64_w, i32_w]
          rfl
         refine pure_ (i := 20) (N := some 93) (v := ?_) (a' := ?_) #[tt, tt, tt, tt, tt, tt, tt, tt, tt, tt, tt, tt, tt, tt, tt, tt, tt, tt, tt, tt, tt, ff, ff] rfl rfl (any_of HT_.out (by kernel_rfl)) (fun _ _ _ h => h) (Or.inl ⟨by rfl, ?_⟩) ?_ ?_
         rotate_left
         ·
          intro w'
          go_simp
          with_reducible rfl
         rotate_left
         ·
          simp only [Act.put, List.setIfInBounds_toArray, List.set_cons_zero, List.set_cons_succ, i64_w, i32_w]
          rfl
         refine pure_ (i := 21) (N := some 94) (v := ?_) (a' := ?_) #[tt, tt, tt, tt, tt, tt, tt, tt, tt, tt, tt, tt, tt, tt, tt, tt, tt, tt, tt, tt, tt, tt, ff] rfl rfl (any_of HT_.out (by kernel_rfl)) (fun _ _ _ h => h) (Or.inl ⟨by rfl, ?_⟩) ?_ ?_
         rotate_left
         ·
          intro w'
          go_simp
          with_reducible rfl
         rotate_left
         ·
          simp only [Act.put, List.setIfInBounds_toArray, List.set_cons_zero, List.set_cons_succ, i64_w, i32_w]
          rfl
         refine pure_ (i := 22) (N := some 11) (v := ?_) (a' := ?_) #[tt, tt, tt, tt, tt, tt, tt, tt, tt, tt, tt, tt, tt, tt, tt, tt, tt, tt, tt, tt, tt, tt, tt] rfl rfl (any_of HT_.out (by kernel_rfl)) (fun _ _ _ h => h) (Or.inl ⟨by rfl, ?_⟩) ?_ ?_
         rotate_left
         ·
          intro w'
          go_simp
          with_reducible rfl
         rotate_left
         ·
          simp only [Act.put, List.setIfInBounds_toArray, List.set_cons_zero, List.set_cons_succ, i64_w, i32_w]
          rfl
         refine done_ (done_of HT_.out (by kernel_rfl)) ?_
         try go_wp2
         go_roundg k3
         case measure => have := HJ3.out; have := HK2.out; have := HK3.out; omega
         case rel => exact ⟨(true), (wrap64 (x12_3 + 1)), xR, xR, H', ⟨by have := HJ3.out; have := HK2.out; have := HK3.out; omega⟩, ⟨by (with_reducible repeat (first | apply Kd.R_alloc | apply Kd.R_drewN | apply Kd.R_drew)); exact HO_7.out⟩, ⟨by (with_reducible repeat (first | apply Kd.R_alloc | apply Kd.R_drewN | apply Kd.R_drew)); exact HO_10.out⟩, ⟨by (with_reducible repeat (first | refine blk_drewN ?_ _ | refine blk_drew ?_ | refine blk_alloc ?_ _)); exact BK101.out⟩, ⟨xB⟩⟩
        replace c58 := Bool.eq_false_iff.mpr c58
        subst c58
        rw [if_neg (show ¬ (false = true) by decide)] at H
        have H' := Aside0.mk H
        clear H
        obtain ⟨Ao67, co67, eo67⟩ := Kd.R_slice HO_10.out
        subst eo67
        try go_wp2
        have n0_ := Aside0.mk (Kd.R_drew HO_7.out)
        have n1_ := Aside0.mk (Kd.R_drew HO_10.out)
        have n2_ := Aside0.mk (blk_drew BK101.out)
        have n3_ := Aside0.mk (below_drew1 HB.out)
        clear HO_7
        clear HO_10
        clear BK101
        clear HB
        have HO_7 := n0_
        have HO_10 := n1_
        have BK101 := n2_
        have HB := n3_
        clear n0_ n1_ n2_ n3_
        refine start_ (n := 23) (S := fun w' => True) (ds := []) #[ff, ff, ff, ff, ff, ff, ff, ff, ff, ff, ff, ff, ff, ff, ff, ff, ff, ff, ff, ff, ff, ff, ff] (by kernel_rfl) rfl rfl trivial (fun hHeld => ?_); refine with_tabW armadalaw17_MvsDowns.tab15 armadalaw17_MvsDowns.bits15 (fun HT_ HW_ => ?_)
        generalize wr.drew = w68 at HO_7 HO_10 BK101 HB hHeld ⊢
        refine pure_ (i := 0) (N := some 73) (v := ?_) (a' := ?_) #[tt, ff, ff, ff, ff, ff, ff, ff, ff, ff, ff, ff, ff, ff, ff, ff, ff, ff, ff, ff, ff, ff, ff] rfl rfl (any_of HT_.out (by kernel_rfl)) (fun _ _ _ h => h) (Or.inl ⟨by rfl, ?_⟩) ?_ ?_
        rotate_left
        ·
         intro w'
         go_simp
         with_reducible rfl
        rotate_left
        ·
         simp only [Act.put, List.setIfInBounds_toArray, List.set_cons_zero, List.set_cons_succ, i64_w, i32_w]
         rfl
        refine pure_ (i := 1) (N := some 74) (v := ?_) (a' := ?_) #[tt, tt, ff, ff, ff, ff, ff, ff, ff, ff, ff, ff, ff, ff, ff, ff, ff, ff, ff, ff, ff, ff, ff] rfl rfl (any_of HT_.out (by kernel_rfl)) (fun _ _ _ h => h) (Or.inl ⟨by rfl, ?_⟩) ?_ ?_
        rotate_left
        ·
         intro w'
         go_simp
         with_reducible rfl
        rotate_left
        ·
         simp only [Act.put, List.setIfInBounds_toArray, List.set_cons_zero, List.set_cons_succ, i64_w, i32_w]
         rfl
        refine pure_ (i := 2) (N := some 75) (v := undef) (a' := ?_) #[tt, tt, tt, ff, ff, ff, ff, ff, ff, ff, ff, ff, ff, ff, ff, ff, ff, ff, ff, ff, ff, ff, ff] rfl rfl (any_of HT_.out (by kernel_rfl)) (fun _ _ _ h => h) (Or.inr ⟨by rfl, rfl⟩) ?_ ?_
        rotate_left
        ·
         simp only [Act.put, List.setIfInBounds_toArray, List.set_cons_zero, List.set_cons_succ, i64_w, i32_w]
         rfl
        refine pure_ (i := 3) (N := some 76) (v := undef) (a' := ?_) #[tt, tt, tt, tt, ff, ff, ff, ff, ff, ff, ff, ff, ff, ff, ff, ff, ff, ff, ff, ff, ff, ff, ff] rfl rfl (any_of HT_.out (by kernel_rfl)) (fun _ _ _ h => h) (Or.inr ⟨by rfl, rfl⟩) ?_ ?_
        rotate_left
        ·
         simp only [Act.put, List.setIfInBounds_toArray, List.set_cons_zero, List.set_cons_succ, i64_w, i32_w]
         rfl
        refine pure_ (i := 4) (N := some 77) (v := undef) (a' := ?_) #[tt, tt, tt, tt, tt, ff, ff, ff, ff, ff, ff, ff, ff, ff, ff, ff, ff, ff, ff, ff, ff, ff, ff] rfl rfl (any_of HT_.out (by kernel_rfl)) (fun _ _ _ h => h) (Or.inr ⟨by rfl, rfl⟩) ?_ ?_
        rotate_left
        ·
         simp only [Act.put, List.setIfInBounds_toArray, List.set_cons_zero, List.set_cons_succ, i64_w, i32_w]
         rfl
        refine pure_ (i := 5) (N := some 78) (v := undef) (a' := ?_) #[tt, tt, tt, tt, tt, tt, ff, ff, ff, ff, ff, ff, ff, ff, ff, ff, ff, ff, ff, ff, ff, ff, ff] rfl rfl (any_of HT_.out (by kernel_rfl)) (fun _ _ _ h => h) (Or.inr ⟨by rfl, rfl⟩) ?_ ?_
        rotate_left
        ·
         simp only [Act.put, List.setIfInBounds_toArray, List.set_cons_zero, List.set_cons_succ, i64_w, i32_w]
         rfl
        refine pure_ (i := 6) (N := some 79) (v := undef) (a' := ?_) #[tt, tt, tt, tt, tt, tt, tt, ff, ff, ff, ff, ff, ff, ff, ff, ff, ff, ff, ff, ff, ff, ff, ff] rfl rfl (any_of HT_.out (by kernel_rfl)) (fun _ _ _ h => h) (Or.inr ⟨by rfl, rfl⟩) ?_ ?_
        rotate_left
        ·
         simp only [Act.put, List.setIfInBounds_toArray, List.set_cons_zero, List.set_cons_succ, i64_w, i32_w]
         rfl
        refine pure_ (i := 7) (N := some 80) (v := undef) (a' := ?_) #[tt, tt, tt, tt, tt, tt, tt, tt, ff, ff, ff, ff, ff, ff, ff, ff, ff, ff, ff, ff, ff, ff, ff] rfl rfl (any_of HT_.out (by kernel_rfl)) (fun _ _ _ h => h) (Or.inr ⟨by rfl, rfl⟩) ?_ ?_
        rotate_left
        ·
         simp only [Act.put, List.setIfInBounds_toArray, List.set_cons_zero, List.set_cons_succ, i64_w, i32_w]
         rfl
        refine pure_ (i := 8) (N := some 81) (v := undef) (a' := ?_) #[tt, tt, tt, tt, tt, tt, tt, tt, tt, ff, ff, ff, ff, ff, ff, ff, ff, ff, ff, ff, ff, ff, ff] rfl rfl (any_of HT_.out (by kernel_rfl)) (fun _ _ _ h => h) (Or.inr ⟨by rfl, rfl⟩) ?_ ?_
        rotate_left
        ·
         simp only [Act.put, List.setIfInBounds_toArray, List.set_cons_zero, List.set_cons_succ, i64_w, i32_w]
         rfl
        refine pure_ (i := 9) (N := some 82) (v := undef) (a' := ?_) #[tt, tt, tt, tt, tt, tt, tt, tt, tt, tt, ff, ff, ff, ff, ff, ff, ff, ff, ff, ff, ff, ff, ff] rfl rfl (any_of HT_.out (by kernel_rfl)) (fun _ _ _ h => h) (Or.inr ⟨by rfl, rfl⟩) ?_ ?_
        rotate_left
        ·
         simp only [Act.put, List.setIfInBounds_toArray, List.set_cons_zero, List.set_cons_succ, i64_w, i32_w]
         rfl
        refine pure_ (i := 10) (N := some 83) (v := undef) (a' := ?_) #[tt, tt, tt, tt, tt, tt, tt, tt, tt, tt, tt, ff, ff, ff, ff, ff, ff, ff, ff, ff, ff, ff, ff] rfl rfl (any_of HT_.out (by kernel_rfl)) (fun _ _ _ h => h) (Or.inr ⟨by rfl, rfl⟩) ?_ ?_
        rotate_left
        ·
         simp only [Act.put, List.setIfInBounds_toArray, List.set_cons_zero, List.set_cons_succ, i64_w, i32_w]
         rfl
        refine pure_ (i := 11) (N := some 84) (v := undef) (a' := ?_) #[tt, tt, tt, tt, tt, tt, tt, tt, tt, tt, tt, tt, ff, ff, ff, ff, ff, ff, ff, ff, ff, ff, ff] rfl rfl (any_of HT_.out (by kernel_rfl)) (fun _ _ _ h => h) (Or.inr ⟨by rfl, rfl⟩) ?_ ?_
        rotate_left
        ·
         simp only [Act.put, List.setIfInBounds_toArray, List.set_cons_zero, List.set_cons_succ, i64_w, i32_w]
         rfl
        refine pure_ (i := 12) (N := some 85) (v := undef) (a' := ?_) #[tt, tt, tt, tt, tt, tt, tt, tt, tt, tt, tt, tt, tt, ff, ff, ff, ff, ff, ff, ff, ff, ff, ff] rfl rfl (any_of HT_.out (by kernel_rfl)) (fun _ _ _ h => h) (Or.inr ⟨by rfl, rfl⟩) ?_ ?_
        rotate_left
        ·
         simp only [Act.put, List.setIfInBounds_toArray, List.set_cons_zero, List.set_cons_succ, i64_w, i32_w]
         rfl
        refine pure_ (i := 13) (N := some 86) (v := undef) (a' := ?_) #[tt, tt, tt, tt, tt, tt, tt, tt, tt, tt, tt, tt, tt, tt, ff, ff, ff, ff, ff, ff, ff, ff, ff] rfl rfl (any_of HT_.out (by kernel_rfl)) (fun _ _ _ h => h) (Or.inr ⟨by rfl, rfl⟩) ?_ ?_
        rotate_left
        ·
         simp only [Act.put, List.setIfInBounds_toArray, List.set_cons_zero, List.set_cons_succ, i64_w, i32_w]
         rfl
        refine pure_ (i := 14) (N := some 87) (v := undef) (a' := ?_) #[tt, tt, tt, tt, tt, tt, tt, tt, tt, tt, tt, tt, tt, tt, tt, ff, ff, ff, ff, ff, ff, ff, ff] rfl rfl (any_of HT_.out (by kernel_rfl)) (fun _ _ _ h => h) (Or.inr ⟨by rfl, rfl⟩) ?_ ?_
        rotate_left
        ·
         simp only [Act.put, List.setIfInBounds_toArray, List.set_cons_zero, List.set_cons_succ, i64_w, i32_w]
         rfl
        refine pure_ (i := 15) (N := some 88) (v := undef) (a' := ?_) #[tt, tt, tt, tt, tt, tt, tt, tt, tt, tt, tt, tt, tt, tt, tt, tt, ff, ff, ff, ff, ff, ff, ff] rfl rfl (any_of HT_.out (by kernel_rfl)) (fun _ _ _ h => h) (Or.inr ⟨by rfl, rfl⟩) ?_ ?_
        rotate_left
        ·
         simp only [Act.put, List.setIfInBounds_toArray, List.set_cons_zero, List.set_cons_succ, i64_w, i32_w]
         rfl
        refine pure_ (i := 16) (N := some 89) (v := undef) (a' := ?_) #[tt, tt, tt, tt, tt, tt, tt, tt, tt, tt, tt, tt, tt, tt, tt, tt, tt, ff, ff, ff, ff, ff, ff] rfl rfl (any_of HT_.out (by kernel_rfl)) (fun _ _ _ h => h) (Or.inr ⟨by rfl, rfl⟩) ?_ ?_
        rotate_left
        ·
         simp only [Act.put, List.setIfInBounds_toArray, List.set_cons_zero, List.set_cons_succ, i64_w, i32_w]
         rfl
        refine pure_ (i := 17) (N := some 90) (v := undef) (a' := ?_) #[tt, tt, tt, tt, tt, tt, tt, tt, tt, tt, tt, tt, tt, tt, tt, tt, tt, tt, ff, ff, ff, ff, ff] rfl rfl (any_of HT_.out (by kernel_rfl)) (fun _ _ _ h => h) (Or.inr ⟨by rfl, rfl⟩) ?_ ?_
        rotate_left
        ·
         simp only [Act.put, List.setIfInBounds_toArray, List.set_cons_zero, List.set_cons_succ, i64_w, i32_w]
         rfl
        refine pure_ (i := 18) (N := some 91) (v := undef) (a' := ?_) #[tt, tt, tt, tt, tt, tt, tt, tt, tt, tt, tt, tt, tt, tt, tt, tt, tt, tt, tt, ff, ff, ff, ff] rfl rfl (any_of HT_.out (by kernel_rfl)) (fun _ _ _ h => h) (Or.inr ⟨by rfl, rfl⟩) ?_ ?_
        rotate_left
        ·
         simp only [Act.put, List.setIfInBounds_toArray, List.set_cons_zero, List.set_cons_succ, i64_w, i32_w]
         rfl
        refine pure_ (i := 19) (N := some 92) (v := undef) (a' := ?_) #[tt, tt, tt, tt, tt, tt, tt, tt, tt, tt, tt, tt, tt, tt, tt, tt, tt, tt, tt, tt, ff, ff, ff] rfl rfl (any_of HT_.out (by kernel_rfl)) (fun _ _ _ h => h) (Or.inr ⟨by rfl, rfl⟩) ?_ ?_
        rotate_left
        ·
         simp only [Act.put, List.setIfInBounds_toArray, List.set_cons_zero, List.set_cons_succ, i64_w, i32_w]
         rfl
        refine pure_ (i := 20) (N := some 93) (v := undef) (a' := ?_) #[tt, tt, tt, tt, tt, tt, tt, tt, tt, tt, tt, tt, tt, tt, tt, tt, tt, tt, tt, tt, tt, ff, ff] rfl rfl (any_of HT_.out (by kernel_rfl)) (fun _ _ _ h => h) (Or.inr ⟨by rfl, rfl⟩) ?_ ?_
        rotate_left
        ·
         simp only [Act.put, List.setIfInBounds_toArray, List.set_cons_zero, List.set_cons_succ, i64_w, i32_w]
         rfl
        refine pure_ (i := 21) (N := some 94) (v := ?_) (a' := ?_) #[tt, tt, tt, tt, tt, tt, tt, tt, tt, tt, tt, tt, tt, tt, tt, tt, tt, tt, tt, tt, tt, tt, ff] rfl rfl (any_of HT_.out (by kernel_rfl)) (fun _ _ _ h => h) (Or.inl ⟨by rfl, ?_⟩) ?_ ?_
        rotate_left
        ·
         intro w'
         go_simp
         with_reducible rfl
        rotate_left
        ·
         simp only [Act.put, List.setIfInBounds_toArray, List.set_cons_zero, List.set_cons_succ, i64_w, i32_w]
         rfl
        refine pure_ (i := 22) (N := some 11) (v := ?_) (a' := ?_) #[tt, tt, tt, tt, tt, tt, tt, tt, tt, tt, tt, tt, tt, tt, tt, tt, tt, tt, tt, tt, tt, tt, tt] rfl rfl (any_of HT_.out (by kernel_rfl)) (fun _ _ _ h => h) (Or.inl ⟨by rfl, ?_⟩) ?_ ?_
        rotate_left
        ·
         intro w'
         go_simp
         with_reducible rfl
        rotate_left
        ·
         simp only [Act.put, List.setIfInBounds_toArray, List.set_cons_zero, List.set_cons_succ, i64_w, i32_w]
         rfl
        refine done_ (done_of HT_.out (by kernel_rfl)) ?_
        try go_wp2
        go_roundg k3
        case measure => have := HJ3.out; have := HK2.out; have := HK3.out; omega
        case rel => exact ⟨(false), (wrap64 (x12_3 + 1)), xR, xR, H', ⟨by have := HJ3.out; have := HK2.out; have := HK3.out; omega⟩, ⟨by (with_reducible repeat (first | apply Kd.R_alloc | apply Kd.R_drewN | apply Kd.R_drew)); exact HO_7.out⟩, ⟨by (with_reducible repeat (first | apply Kd.R_alloc | apply Kd.R_drewN | apply Kd.R_drew)); exact HO_10.out⟩, ⟨by (with_reducible repeat (first | refine blk_drewN ?_ _ | refine blk_drew ?_ | refine blk_alloc ?_ _)); exact BK101.out⟩, ⟨xB⟩⟩
       rw [if_neg c57] at H
       have c57b0 := decide_eq_false c57
       clear c57
       by_cases c69 : x11_3 = true
       ·
        subst c69
        rw [if_pos rfl] at H
        replace H := xb H
        obtain ⟨t133, A70, H⟩ := H
        by_cases c71 : t133 = true
        ·
         subst c71
         rw [if_pos rfl] at H
         by_cases c72 : (t112.length : Int) ≤ (l0.length : Int)
         ·
          rw [if_pos c72] at H
          have c72b0 := decide_eq_true c72
          have c72b1 : decide (t112.length ≤ l0.length) = true := decide_eq_true (Int.ofNat_le.mp c72)
          clear c72
          replace H := xb H
          obtain ⟨t134, A73, H⟩ := H
          obtain rfl := Option.some.inj H
          obtain ⟨Ao74, co74, eo74⟩ := Kd.R_slice HO_10.out
          subst eo74
          go_wp2_with (first | (go_at_call 14; (with_reducible refine (armadaref17_Same.calls k3 _ _ t112 _ _ l0 true _ ?side1 ?side2 ?side3 ?side4 A70.out).mono ?_); (case side1 => repeat (first | exact (Kd.R_reads' HO_7.out).2.2 | (with_reducible refine Kd.C_alloc ?_ _) | (with_reducible refine Kd.C_drewN ?_ _) | (with_reducible refine Kd.C_drew ?_))); (case side2 => exact (Kd.R_reads' HO_7.out).2.1); (case side3 => repeat (first | exact (Kd.C_below HR0.out HB.out) | (with_reducible refine Kd.C_alloc ?_ _) | (with_reducible refine Kd.C_drewN ?_ _) | (with_reducible refine Kd.C_drew ?_))); (case side4 => exact HC0.out); rintro e w' ⟨rfl, ⟨nd, rfl⟩⟩) | (go_at_call 12; (with_reducible refine (armadalaw17_live.calls  t134 _ ?side1 ?side2 A73.out).mono ?_); (case side1 => exact GW.below HGW.out xB); (case side2 => exact HTRU_.out); rintro e w75 ⟨rfl, hb⟩; replace HO_7 := Aside0.mk (Kd.R_below (by (with_reducible repeat (first | apply Kd.R_alloc | apply Kd.R_drewN | apply Kd.R_drew)); exact HO_7.out) hb); replace HO_10 := Aside0.mk (Kd.R_below (by (with_reducible repeat (first | apply Kd.R_alloc | apply Kd.R_drewN | apply Kd.R_drew)); exact HO_10.out) hb); replace BK101 := Aside0.mk (blk_below (g := gb101) (o := .cells #[.string a2_0, .int .i64 a2_1, .int .i64 a2_2, .int .i64 a2_3, .string a2_4, .string a2_5] 27 (0, 0)) xK hb); replace HB := Aside0.mk (below_step xB hb); (try clear hb); (try clear hb2); (try clear hk); (try clear hi)))
          go_ret
          exact ⟨by first | rfl | (simp [errW_none, errW_some] <;> rfl) | (simp [*, errW_none, errW_some] <;> rfl) | (simp [isEmpty_bne]; done), xB⟩
         rw [if_neg c72] at H
         have c72b0 := decide_eq_false c72
         have c72b1 : decide (t112.length ≤ l0.length) = false := decide_eq_false (fun h => c72 (Int.ofNat_le.mpr h))
         clear c72
         exact absurd ((Option.some.inj H).trans HTRU_.out) (by decide)
        replace c71 := Bool.eq_false_iff.mpr c71
        subst c71
        rw [if_neg (show ¬ (false = true) by decide)] at H
        exact absurd ((Option.some.inj H).trans HTRU_.out) (by decide)
       replace c69 := Bool.eq_false_iff.mpr c69
       subst c69
       rw [if_neg (show ¬ (false = true) by decide)] at H
       by_cases c76 : (t112.length : Int) ≤ (l0.length : Int)
       ·
        rw [if_pos c76] at H
        have c76b0 := decide_eq_true c76
        have c76b1 : decide (t112.length ≤ l0.length) = true := decide_eq_true (Int.ofNat_le.mp c76)
        clear c76
        replace H := xb H
        obtain ⟨t135, A77, H⟩ := H
        obtain rfl := Option.some.inj H
        obtain ⟨Ao78, co78, eo78⟩ := Kd.R_slice HO_10.out
        subst eo78
        go_wp2_with (first | (go_at_call 12; (with_reducible refine (armadalaw17_live.calls  t135 _ ?side1 ?side2 A77.out).mono ?_); (case side1 => exact GW.below HGW.out xB); (case side2 => exact HTRU_.out); rintro e w79 ⟨rfl, hb⟩; replace HO_7 := Aside0.mk (Kd.R_below (by (with_reducible repeat (first | apply Kd.R_alloc | apply Kd.R_drewN | apply Kd.R_drew)); exact HO_7.out) hb); replace HO_10 := Aside0.mk (Kd.R_below (by (with_reducible repeat (first | apply Kd.R_alloc | apply Kd.R_drewN | apply Kd.R_drew)); exact HO_10.out) hb); replace BK101 := Aside0.mk (blk_below (g := gb101) (o := .cells #[.string a2_0, .int .i64 a2_1, .int .i64 a2_2, .int .i64 a2_3, .string a2_4, .string a2_5] 27 (0, 0)) xK hb); replace HB := Aside0.mk (below_step xB hb); (try clear hb); (try clear hb2); (try clear hk); (try clear hi)))
        go_ret
        exact ⟨by first | rfl | (simp [errW_none, errW_some] <;> rfl) | (simp [*, errW_none, errW_some] <;> rfl) | (simp [isEmpty_bne]; done), xB⟩
       rw [if_neg c76] at H
       have c76b0 := decide_eq_false c76
       have c76b1 : decide (t112.length ≤ l0.length) = false := decide_eq_false (fun h => c76 (Int.ofNat_le.mpr h))
       clear c76
       exact absurd ((Option.some.inj H).trans HTRU_.out) (by decide)
end Go.Proofs.YtkidfclnakbgiaaGreatDoor.LDowns
end

section
namespace Go.Proofs.YtkidfclnakbgiaaGreatDoor.LDowns
open Go.RowKit Go.Proofs.YtkidfclnakbgiaaGreatDoor Go.Proofs.YtkidfclnakbgiaaGreatDoor.K0 Go.Proofs.YtkidfclnakbgiaaGreatDoor.RD Go.Proofs.YtkidfclnakbgiaaGreatDoor.RO Go.Proofs.YtkidfclnakbgiaaGreatDoor.RS Go.Proofs.YtkidfclnakbgiaaGreatDoorW.PrintWords Go.Proofs.YtkidfclnakbgiaaGreatDoorW.PrintLast Go.Proofs.YtkidfclnakbgiaaGreatDoorW.PrintMore
attribute [local go_sem] max2_int min2_int max_two min_two max_three min_three max_four min_four
set_option linter.unusedVariables false
set_option linter.unusedSimpArgs false
end Go.Proofs.YtkidfclnakbgiaaGreatDoor.LDowns
end

section
namespace Go.Proofs.YtkidfclnakbgiaaGreatDoor
open Go Go.RowKit Go.Proofs Go.Proofs.YtkidfclnakbgiaaGreatDoorW.PrintWords Go.Proofs.YtkidfclnakbgiaaGreatDoor.K0 Go.Proofs.YtkidfclnakbgiaaGreatDoor.RD Go.Proofs.YtkidfclnakbgiaaGreatDoor.RS Go.Proofs.YtkidfclnakbgiaaGreatDoor.RO Go.Proofs.YtkidfclnakbgiaaGreatDoor.LDowns
set_option linter.unusedVariables false
set_option linter.unusedSimpArgs false
theorem down_f (a : List Rq) (l : List NdR) (r : Rq) (h1 : ((l.map ndR).flatMap (·.2)).length ≤ 240) (h2 : l.length ≤ 20) (h3 : a.length ≤ 12) (h4 : ∀ x ∈ a, x.f0.size ≤ 200) : Ev (fun _ => mvs_Downgrade.f a (l.map toNd) r.f0 r.f1.f0 r.f1.f1 r.f1.f2 r.f1.f3 r.f1.f4) (mv.downgrade a (l.map ndR) r) := by
  unfold mvs_Downgrade.f
  rw [own_ndP, if_pos ⟨by omega, by rw [List.length_map]; omega, by omega, fun x hx => Nat.le_trans (h4 x hx) (by decide)⟩]
  exact ev_some rfl
theorem downs_end (root : List Rq) (l : List NdR) (r : Rq) (b : Bool) (h1 : root.length ≤ 12) (hb : b = true → (mv.downgrade root (l.map ndR) r) = root) : Ev (fun k => armadalaw17_MvsDowns.l1 k root (mv.downgrade root (l.map ndR) r) (mv.list root (l.map ndR)) b (((mv.list root (l.map ndR)).length : Nat) : Int) r.f0 r.f1.f0 r.f1.f1 r.f1.f2 r.f1.f3 r.f1.f4) true := by
  have hd := Mv.downs_len (m := mv) root (l.map ndR) r
  refine ev_succ ?_
  cases b
  · simp only [armadalaw17_MvsDowns.l1, Int.lt_irrefl, if_false, Bool.false_eq_true, if_pos (show (((mv.downgrade root (l.map ndR) r).length : Nat) : Int) ≤ ((root.length : Nat) : Int) from by omega)]
    exact live_ev
  · simp only [armadalaw17_MvsDowns.l1, Int.lt_irrefl, if_false, if_true, if_pos (show (((mv.downgrade root (l.map ndR) r).length : Nat) : Int) ≤ ((root.length : Nat) : Int) from by omega)]
    refine Ev.bind (a := true) ?_ ?_
    · rw [hb rfl]; exact Same_f root (by omega)
    · simp only [if_true]; exact live_ev
/-- Is no more than r what is listed from here on? -/
def lowB (r : Rq) (l : List Rq) : Prop := ∀ y ∈ l, mv.path y = mv.path r → mv.cmp y r ≤ 0
theorem downs_l1 (root : List Rq) (l : List NdR) (r : Rq) (S : IsSmall root l) (hr : mv.may r = true) (n : Nat) (hn : n ≤ (mv.list root (l.map ndR)).length) (b : Bool) (hb : b = true → lowB r ((mv.list root (l.map ndR)).take n)) : Ev (fun k => armadalaw17_MvsDowns.l1 k root (mv.downgrade root (l.map ndR) r) (mv.list root (l.map ndR)) b (n : Int) r.f0 r.f1.f0 r.f1.f1 r.f1.f2 r.f1.f3 r.f1.f4) true := by
  have h1 := S.rl; have h2 := S.fl
  have hx := list_len root (l.map ndR)
  obtain ⟨d, hd⟩ : ∃ d, d = (mv.list root (l.map ndR)).length - n := ⟨_, rfl⟩
  induction d generalizing n b with
  | zero =>
    have : n = (mv.list root (l.map ndR)).length := by omega
    subst this
    refine downs_end root l r b h1 fun h => ?_
    have := hb h
    rw [List.take_length] at this
    exact Mv.downs_low mv_good hr this
  | succ d ih =>
    obtain ⟨x, e1, e2, e3⟩ := rdR_at (show n < (mv.list root (l.map ndR)).length by omega)
    have ht : (mv.list root (l.map ndR)).take (n + 1) = (mv.list root (l.map ndR)).take n ++ [x] := by rw [List.take_add_one, e3]; rfl
    have ih' := ih (n + 1) (by omega)
    refine ev_succ ?_
    cases b
    · simp only [armadalaw17_MvsDowns.l1, if_pos (show (n : Int) < (((mv.list root (l.map ndR)).length : Nat) : Int) from by omega), wrap_s (show n < 9223372036854775807 by omega), Bool.false_eq_true, if_false]
      exact ih' false (fun h => by cases h) (by omega)
    · simp only [armadalaw17_MvsDowns.l1, if_pos (show (n : Int) < (((mv.list root (l.map ndR)).length : Nat) : Int) from by omega), if_pos (show (0 : Int) ≤ (n : Int) from by omega), e1, wrap_s (show n < 9223372036854775807 by omega), if_true]
      by_cases hp : mv.path x = mv.path r
      · simp only [if_pos (path_list.2 hp)]
        refine Ev.bind (cmp_f x r) ?_
        refine ih' _ (fun h => ?_) (by omega)
        rw [ht]
        intro y hy hpy
        rcases List.mem_append.1 hy with hy | hy
        · exact hb rfl y hy hpy
        · obtain rfl := List.mem_singleton.1 hy
          exact of_decide_eq_true h
      · simp only [if_neg (fun e => hp (path_list.1 e))]
        refine ih' true (fun _ => ?_) (by omega)
        rw [ht]
        intro y hy hpy
        rcases List.mem_append.1 hy with hy | hy
        · exact hb rfl y hy hpy
        · obtain rfl := List.mem_singleton.1 hy
          exact absurd hpy hp
theorem downs_l0 (root : List Rq) (l : List NdR) (r : Rq) (S : IsSmall root l) (hr : mv.may r = true) : Ev (fun k => armadalaw17_MvsDowns.l0 k root l (mv.downgrade root (l.map ndR) r) (mv.list (mv.downgrade root (l.map ndR) r) (l.map ndR)) 0 r.f0 r.f1.f0 r.f1.f1 r.f1.f2 r.f1.f3 r.f1.f4) true := by
  have h1 := S.rl; have h2 := S.fl; have h3 := S.ll
  have hd := Mv.downs_len (m := mv) root (l.map ndR) r
  have hx := list_len (mv.downgrade root (l.map ndR) r) (l.map ndR)
  refine ev_from (mv.list (mv.downgrade root (l.map ndR) r) (l.map ndR)).length (fun k n => armadalaw17_MvsDowns.l0 k root l (mv.downgrade root (l.map ndR) r) (mv.list (mv.downgrade root (l.map ndR) r) (l.map ndR)) (n : Int) r.f0 r.f1.f0 r.f1.f1 r.f1.f2 r.f1.f3 r.f1.f4) (fun _ => true) ?_ ?_ 0 (Nat.zero_le _)
  · refine ev_succ ?_
    simp only [armadalaw17_MvsDowns.l0, Int.lt_irrefl, if_false]
    refine Ev.bind (own_f l (by omega)) ?_
    refine Ev.bind (list_f (a := root) (l := l) (by omega)) ?_
    exact downs_l1 root l r S hr 0 (Nat.zero_le _) true (fun _ y hy => by rw [List.take_zero] at hy; cases hy)
  · intro n hn h
    obtain ⟨x, e1, e2, e3⟩ := rdR_at hn
    have hxm := List.mem_of_getElem? e3
    refine ev_succ ?_
    simp only [armadalaw17_MvsDowns.l0, if_pos (show (n : Int) < (((mv.list (mv.downgrade root (l.map ndR) r) (l.map ndR)).length : Nat) : Int) from by omega), if_pos (show (0 : Int) ≤ (n : Int) from by omega), e1, wrap_s (show n < 9223372036854775807 by omega)]
    by_cases hp : mv.path x = mv.path r
    · simp only [if_pos (path_list.2 hp)]
      refine Ev.bind (cmp_f x r) ?_
      have := Mv.downs_list mv_good hr hxm hp
      simp only [if_neg (show ¬ mv.cmp x r > 0 by omega)]
      exact h
    · simp only [if_neg (fun e => hp (path_list.1 e))]
      exact h
theorem downs_j0 (root : List Rq) (l : List NdR) (r : Rq) : Ev (fun k => armadalaw17_MvsDowns.j0 k root l true r.f0 r.f1.f0 r.f1.f1 r.f1.f2 r.f1.f3 r.f1.f4) true := by
  refine ev_succ ?_
  simp only [armadalaw17_MvsDowns.j0, if_true]
  exact live_ev
theorem downs_ev (root : List Rq) (l : List NdR) (r : Rq) (hl : root.length ≤ 9223372036854775807) (hl1 : l.length ≤ 9223372036854775807) (hi : ∀ x ∈ l, x.f1.length ≤ 9223372036854775807) : Ev (fun k => armadalaw17_MvsDowns.f k root l r.f0 r.f1.f0 r.f1.f1 r.f1.f2 r.f1.f3 r.f1.f4) true := by
  unfold armadalaw17_MvsDowns.f
  refine Ev.bind (small_f root l hl hl1 hi) ?_
  cases hs : smallB root l
  · simp only [Bool.false_eq_true, if_false]; exact downs_j0 root l r
  · have S := small_is hs
    have h1 := S.rl; have h2 := S.fl; have h3 := S.ll
    simp only [if_true]
    refine Ev.bind (small_f [r] [] (by simp) (by simp) (by simp)) ?_
    cases hs2 : smallB [r] []
    · simp only [Bool.false_eq_true, if_false]; exact downs_j0 root l r
    · simp only [if_true]
      refine Ev.bind (May_f r) ?_
      cases hr : mv.may r
      · simp only [Bool.not_false]; exact downs_j0 root l r
      · simp only [Bool.not_true]
        have hd := Mv.downs_len (m := mv) root (l.map ndR) r
        refine ev_succ ?_
        simp only [armadalaw17_MvsDowns.j0, Bool.false_eq_true, if_false]
        refine Ev.bind (own_f l (by omega)) ?_
        refine Ev.bind (down_f root l r h2 h3 h1 S.sz) ?_
        refine Ev.bind (own_f l (by omega)) ?_
        refine Ev.bind (list_f (a := (mv.downgrade root (l.map ndR) r)) (l := l) (by omega)) ?_
        exact downs_l0 root l r S hr
theorem downs_pure (root : List Rq) (l : List NdR) (a0 : ByteArray) (a1 a2 a3 : Int) (a4 a5 : ByteArray) (hl : root.length ≤ 9223372036854775807) (hl1 : l.length ≤ 9223372036854775807) (hi : ∀ x ∈ l, x.f1.length ≤ 9223372036854775807) : ∃ k, armadalaw17_MvsDowns.f k root l a0 a1 a2 a3 a4 a5 = some true := (downs_ev root l ⟨a0, ⟨a1, a2, a3, a4, a5⟩⟩ hl hl1 hi).rounds
end Go.Proofs.YtkidfclnakbgiaaGreatDoor
end

section
namespace Go.Proofs.YtkidfclnakbgiaaGreatDoor
open Go Go.ChangeShapes Go.WideShapes Go.ChangeAt Go.RowKit Go.Joins Go.Deep Go.Proofs.YtkidfclnakbgiaaGreatDoor.LDowns
set_option linter.unusedVariables false
set_option maxRecDepth 100000 in
theorem mvsDowns_lifted (os : Os) (started : os.Started) (H : Type) (enc : TypeId × Value → H) :
    ReturnsInHanded {} Tryz.checked os 6 .any (fun w args => (Rows.mvsDownsSpec.pre enc Tryz.prog Tryz.f6 Rows.mvsDownsRow.domain false w args ∧ laidMetH Tryz.prog Rows.mvsDownsRow.laid w) ∧ sizedMet enc Tryz.prog Tryz.f6 (OpenSpec.ofChange Rows.mvsDownsSpec) false w args)
      (Rows.mvsDownsSpec.post enc Tryz.prog Tryz.f6 false true false false) := by
  refine lifted_of (C := Tryz.checked) (tb := 4) laidOut rfl own started (by kernel_rfl) Tryz.func6 (by kernel_rfl) (by kernel_rfl) Tryz.underlying4 ?_
    (ChangeSpec.witness_shaped (enc := enc) (C := Tryz.checked) (os := os) (X := fun w _ => laidMetH Tryz.prog Rows.mvsDownsRow.laid w) false (World.laidAll Tryz.prog os Rows.mvsDownsRow.laid) #[.slice none 0 0, .slice none 0 0, .agg #[.string ⟨#[]⟩, .int .i64 0, .int .i64 0, .int .i64 0, .string ⟨#[]⟩, .string ⟨#[]⟩]] 8 (World.laidAll_os _ _ _)
      (World.shaped_of_ZipB (by kernel_rfl) (by kernel_rfl)) (by kernel_rfl) (by kernel_rfl) (by kernel_rfl)
      (by rw [MakeChecks.laidMetH_plain _ _ _ (by kernel_rfl)]; exact laidMet_laidAll _ (by kernel_rfl) (by kernel_rfl))) ?_
  · intro ds hd
    match ds, hd.trans (show Tryz.f6.params.size = 3 by kernel_rfl) with
    | [_, _, _], _ => rfl
  · intro W base args ds ps hval0 hA0 hz hsh hL
    have hval : ∀ (j : Nat) t v, Tryz.f6.params[j]? = some t → args[j]? = some v → Value.okWide Tryz.prog W .any base t v := hval0
    have hA : DataW.TrodAll enc Tryz.prog W 0 (fun _ => true) true Tryz.f6.params.toList args.toList ds ps := hA0
    rw [Tryz.params6] at hA hval
    obtain ⟨v0, v1, v2, d0, d1, d2, p0, p1, p2, rfl, rfl, rfl, h0, h1, h2⟩ := trodAll_three hA
    obtain ⟨A0, c0, x0, rfl, hc0, hr0⟩ := arg_reqs (hval 0 22 v0 rfl rfl) h0
    obtain ⟨A1, c1, x1, rfl, hc1, hr1⟩ := arg_nodes (hval 1 23 v1 rfl rfl) h1
    obtain ⟨x2a, x2b, x2c, x2d, x2p, x2q, rfl⟩ := arg_req (hval 2 27 v2 rfl rfl) h2
    obtain ⟨k, hk⟩ := downs_pure x0 x1 x2a x2b x2c x2d x2p x2q hr0.2.1 hr1.2.1 (nodes_short hr1)
    exact armadalaw17_MvsDowns.calls k A0 c0 x0 A1 c1 x1 x2a x2b x2c x2d x2p x2q true W hr0 hc0 hr1 hc1 (gw_of hsh hL) rfl hk
theorem mvsDowns_holds : Rows.MvsDownsSaid :=
  OpenClaim.holds_of_wide 6 Tryz.f6 rfl rfl rfl rfl rfl rfl rfl ⟨rfl, rfl, rfl, rfl, rfl⟩ rfl rfl rfl rfl rfl (by kernel_rfl) Tryz.func6 (by kernel_rfl)
    (of_decide_eq_true (by kernel_rfl)) (by unfold Func.isWrapper; first | (rw [if_pos (by decide +kernel)]; kernel_rfl) | (rw [if_neg (by decide +kernel)]; exact ⟨rfl, rfl⟩))
    (fun os started H enc _ => mvsDowns_lifted os started H enc)
theorem mvsDowns_card : Rows.MvsDownsCardSaid :=
  Claim7.holds_tied_plain_at .later [] [.data, .data, .data, .data, .sentinel, .sentinel, .pinned] true (true, "5949cf66e13fd1f391be309675234d90056db7f2d948a31634a7fe3da95e5fd9") true mvsDowns_holds (fun _ h => by cases h) (by kernel_rfl) (fun _ h => by cases h) mvsDowns_row_tie rfl ⟨rfl, rfl⟩ (by kernel_rfl) rfl
    (fun f fn hf hfn => by
      obtain rfl : f = 6 := Option.some.inj ((show Tryz.prog.funcNamed "armada/armadalaw17.MvsDowns" = some 6 by kernel_rfl).symm.trans hf) |>.symm
      obtain rfl : fn = Tryz.f6 := (Option.some.inj (Tryz.func6.symm.trans hfn)).symm
      exact ⟨by kernel_rfl, fun j t ht => by
        rw [Tryz.params6] at ht
        have hm : t ∈ [22, 23, 27] := by simpa using Array.mem_of_getElem? ht
        have hall : ([22, 23, 27].all fun u => !Tryz.prog.wantsStandIn u) = true := by kernel_rfl
        exact (show Tryz.prog.wantsStandIn t = false by simpa using List.all_eq_true.1 hall t hm)⟩)
    (by kernel_rfl)
#print axioms mvsDowns_card
end Go.Proofs.YtkidfclnakbgiaaGreatDoor
end
