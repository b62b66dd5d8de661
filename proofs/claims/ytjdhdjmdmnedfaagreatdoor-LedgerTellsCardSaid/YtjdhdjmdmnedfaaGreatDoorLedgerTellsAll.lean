/- The law armadalaw15.LedgerTells answers true whatever tags it is handed, and what it was handed reads as it did; its tied card holds.
   Conditions: those of the row and the card alone: the listed variables of Go's library hold what the program's own text lays in them. -/
import Derived.Test.YtjdhdjmdmnedfaaGreatDoorZL4
import Derived.Test.YtjdhdjmdmnedfaaGreatDoorTie
import Derived.Test.YtjdhdjmdmnedfaaGreatDoorCards
import Derived.ProofKit
import Derived.OpenShut
import Derived.LaidMore
import Derived.Lay
import Derived.SevenTiedAt
import Derived.Stop.Joined
import Derived.Stop.LaidErr
import Derived.Carry
import Derived.Shelf.Vars
import Derived.Handed
import Derived.JoinedOf
import Derived.Test.YtjdhdjmdmnedfaaGreatDoorZL6
import Derived.Test.YtjdhdjmdmnedfaaGreatDoorZL10
import Derived.Test.YtjdhdjmdmnedfaaGreatDoorZL13
import Derived.Test.YtjdhdjmdmnedfaaGreatDoorZL16
import Derived.Test.YtjdhdjmdmnedfaaGreatDoorZL23
import Derived.Test.YtjdhdjmdmnedfaaGreatDoorZL37
import Derived.Test.YtjdhdjmdmnedfaaGreatDoorZL38
import Derived.Test.YtjdhdjmdmnedfaaGreatDoorZL40
import Derived.Test.YtjdhdjmdmnedfaaGreatDoorZL3
import Derived.Lib.SmallJoins
section
namespace Go.Proofs.YtjdhdjmdmnedfaaGreatDoor
open Go Go.ChangeShapes Go.WideShapes Go.ChangeAt Go.RowKit Go.Joins Go.Deep Go.Proofs.YtjdhdjmdmnedfaaGreatDoorW.PrintWords
set_option linter.unusedVariables false
theorem own : ownKnob Tryz.prog.godebug = none := by kernel_rfl
theorem laidOut : laidOutB Tryz.prog = true := by kernel_rfl
section
variable {H : Type} {enc : TypeId × Value → H} {P : Program}
theorem trodAll_carry (hl : laidOutB P = true) {W W' : World} (hb : Below W.heap.size W W') : ∀ {ts : List TypeId} {vs : List Value} {ds : List (DataW H)} {ps : List MemPlace},
    (ts.all fun t => P.readableRec t && decide (t < P.types.size)) = true → DataW.TrodAll enc P W 0 (fun _ => true) true ts vs ds ps → ∀ sp : Nat → Bool, (∀ p ∈ ps, sp p.block = true) → DataW.TrodAll enc P W' 0 sp true ts vs ds ps
  | [], [], [], _, _, h, _, _ => h
  | [], [], _ :: _, _, _, h, _, _ => h.elim
  | [], _ :: _, _, _, _, h, _, _ => h.elim
  | _ :: _, [], _, _, _, h, _, _ => h.elim
  | _ :: _, _ :: _, [], _, _, h, _, _ => h.elim
  | t :: ts, v :: vs, d :: ds, ps, hr, h, sp, hs => by
    have hlt := h.lt
    obtain ⟨p, q, h1, h2, rfl⟩ := h
    simp only [List.all_cons, Bool.and_eq_true, decide_eq_true_eq] at hr
    exact ⟨p, q, WideElems.Trod_stays hl hr.1.1 hr.1.2 h1 (fun x hx => hb.same (hlt x (by simp [hx]))) (fun x hx => hs x (by simp [hx])),
      trodAll_carry hl hb (by simpa using hr.2) h2 sp (fun x hx => hs x (by simp [hx])), rfl⟩
theorem post_true {f : Func} {s : ChangeSpec} {W W' : World} {args : Array Value} {ds : List (DataW H)} {before : List MemPlace} {tb : TypeId} (hl : laidOutB P = true) (hv : s.vars = [])
    (hW : DataW.Whole enc P f.params.toList s.vars false W args.toList ds [] before) (hr : (f.params.toList.all fun t => P.readableRec t && decide (t < P.types.size)) = true)
    (hres : f.resultTypes = #[tb]) (hbool : P.underlying tb = some .bool) (hfn : s.fn H (ds ++ []) = { results := [.lit (.bool true)], args := ds }) (hb : Below W.heap.size W W') :
    s.post enc P f false true false false W args (.bool true) W' := by
  have hlt := hW.lt
  obtain ⟨p, q, hA, hV, hpq, hz, hn⟩ := hW
  have hq : q = [] := by rw [hv] at hV; exact hV
  subst hq
  rw [List.append_nil] at hpq
  subst hpq
  refine ⟨ds, [], before, [], before, [], ⟨before, [], hA, hV, (List.append_nil _).symm, hz, hn⟩, ?_, ?_, ?_, hb.frame _, fun h => by cases h⟩
  · rw [hfn, hres]
    exact trodAll_mk1 (shut_bool hbool _)
  · rw [hfn]
    exact trodAll_carry hl hb hr hA _ (fun x hx => by simpa using hlt x hx)
  · rw [hfn, hv]
    exact rfl
theorem lifted_of {C : Checked} {os : Os} {f : FuncId} {fn : Func} {s : ChangeSpec} {conds : List PathCond} {laid : List (String × DataW Unit)} {tb : TypeId} (hl : laidOutB C.prog = true) (hv : s.vars = [])
    (own : ownKnob C.prog.godebug = none) (started : os.Started) (noInit : C.prog.inits.idxOf? f = none) (hfn : C.prog.funcs[f]? = some fn)
    (hr : (fn.params.toList.all fun t => C.prog.readableRec t && decide (t < C.prog.types.size)) = true)
    (hres : fn.resultTypes = #[tb]) (hbool : C.prog.underlying tb = some .bool)
    (hspec : ∀ ds : List (DataW H), ds.length = fn.params.size → s.fn H (ds ++ []) = { results := [.lit (.bool true)], args := ds })
    (witness : ∃ (w : World) (tape : Tape) (i : Input), w.os = os ∧ (w.forCall tape i).Shaped C.prog ∧ i.vars = [] ∧ Input.okWide C.prog (w.forCall tape i) .any w.heap.size f i ∧
      ((s.pre enc C.prog fn conds false (w.forCall tape i).memory i.args ∧ laidMetH C.prog laid (w.forCall tape i).memory) ∧ sizedMet enc C.prog fn (OpenSpec.ofChange s) false (w.forCall tape i).memory i.args) ∧
      ({} : Assume).holds C.prog (lone (Frame.enter C.prog f i.args .normal) [] (w.forCall tape i)))
    (law : ∀ (W : World) (base : Nat) (args : Array Value) (ds : List (DataW H)) (ps : List MemPlace),
      (∀ (j : Nat) t v, fn.params[j]? = some t → args[j]? = some v → Value.okWide C.prog W .any base t v) →
      DataW.TrodAll enc C.prog W 0 (fun _ => true) true fn.params.toList args.toList ds ps →
      (DataW.weightsEach C.prog fn.params.toList ds).all (· ≤ reachBytes) = true →
      W.ShapedOpen C.prog → laidMetH C.prog laid W →
      Calls C.prog f args W fun e W' => e = .returned (.bool true) ∧ Below W.heap.size W W') :
    ReturnsInHanded {} C os f .any (fun w args => (s.pre enc C.prog fn conds false w args ∧ laidMetH C.prog laid w) ∧ sizedMet enc C.prog fn (OpenSpec.ofChange s) false w args) (s.post enc C.prog fn false true false false) := by
  refine returnsInHanded_of_calls own started noInit witness ?_
  intro w tape i _ hsh _ hok hpre hholds
  obtain ⟨_, _, _, fn', hfn', _, _, _, _, hval⟩ := hok
  have e : fn' = fn := Option.some.inj (hfn'.symm.trans hfn)
  subst e
  obtain ⟨⟨⟨ds, gs, before, hw, hc⟩, hx⟩, hz⟩ := hpre
  have hgs : gs = [] := by
    obtain ⟨_, _, _, hV, _⟩ := hw
    rw [hv] at hV
    cases gs with
    | nil => rfl
    | cons _ _ => exact hV.elim
  subst hgs
  have hw' := DataW.Whole.of_heap (w' := w.forCall tape i) (by rfl) hw
  have hz' := hz.weights hw
  obtain ⟨p, q, hA, _⟩ := hw'
  have hlen : ∀ {ts : List TypeId} {vs : List Value} {ds : List (DataW H)} {ps : List MemPlace}, DataW.TrodAll enc C.prog (w.forCall tape i) 0 (fun _ => true) true ts vs ds ps → ds.length = ts.length := by
    intro ts
    induction ts with
    | nil => intro vs ds ps h; cases vs <;> cases ds <;> first | rfl | exact h.elim
    | cons t ts ih =>
      intro vs ds ps h
      cases vs <;> cases ds <;> first | exact h.elim | skip
      obtain ⟨_, _, _, h2, _⟩ := h
      simp [ih h2]
  have hz2 : (DataW.weightsEach C.prog fn'.params.toList ds).all (· ≤ reachBytes) = true := by
    have e1 : (OpenSpec.ofChange s).bare.plain.varTypes C.prog = [] := by
      show s.plain.varTypes C.prog = []
      unfold DataSpec.varTypes ChangeSpec.plain
      simp [hv]
    rw [e1, List.append_nil, List.append_nil] at hz'
    exact hz'
  refine (law (w.forCall tape i) w.heap.size i.args ds p hval hA hz2 hsh (hx.of_heap (by rfl))).mono fun e W' ⟨he, hb⟩ => ?_
  subst he
  refine ChangeSpec.post_blind (post_true hl hv (DataW.Whole.of_heap (w' := w.forCall tape i) (by rfl) hw) hr hres hbool (hspec ds ?_) hb)
  rw [hlen hA]; simp
end
theorem laid_mem {P : Program} {W : World} {x : String × DataW Unit} : ∀ {l : List (String × DataW Unit)}, laidMet P l W → x ∈ l → ∃ r, laidMet P (x :: r) W
  | [], _, h => by cases h
  | y :: l, hl, h => by
    rcases List.mem_cons.1 h with rfl | h'
    · exact ⟨l, hl⟩
    · exact laid_mem hl.tail h'
theorem iface_var {P : Program} {W : World} {n nm : String} {d : DataW Unit} {r : List (String × DataW Unit)} {g : Nat} {ti : TypeId} {ms : Array (String × TypeId)} (h : laidMet P ((n, .iface nm d) :: r) W)
    (hg : P.globalNamed n = some g) (ht : (P.globals[g]?).map (·.type) = some ti) (hi : P.underlying ti = some (.interface ms)) : ∃ tp p, W.var? P n = some #[.iface tp p] := by
  obtain ⟨ps, ⟨g0, t0, cs0, f0, p0, q0, hg0, ht0, hv0, hd0, _, _⟩, _, _⟩ := h
  obtain rfl := Option.some.inj (hg.symm.trans hg0)
  obtain rfl := Option.some.inj (ht.symm.trans ht0)
  obtain ⟨l0⟩ := cs0
  cases f0 with
  | zero => cases hd0
  | succ f0 =>
    unfold DataW.trod at hd0
    rw [hi] at hd0
    split at hd0 <;> first
      | (rename_i h1 h2; cases h1; done)
      | skip
    all_goals first
      | (cases hd0; done)
      | (rename_i u v h1 h2; simp only at h2; subst h2; exact ⟨u, v, hv0⟩)
      | skip
    all_goals (rename_i h1; cases h1)
section
variable {H : Type} {enc : TypeId × Value → H} {P : Program} {w : World} {base : Nat} {spare : Nat → Bool} {held : Bool}
end
/-- What the row lists gives the walk's world. -/
theorem gw_of {W : World} (h : W.ShapedOpen Tryz.prog) (hl : laidMetH Tryz.prog Rows.ledgerTellsRow.laid W) : GW W := by
  rw [MakeChecks.laidMetH_plain _ _ _ (by kernel_rfl)] at hl
  obtain ⟨_, h1⟩ := laid_mem (x := ("internal/strconv.uint64pow10", Rows.laid_internal_strconv_uint64pow10)) hl (by repeat (first | exact List.mem_cons_self .. | apply List.mem_cons_of_mem))
  obtain ⟨_, h2⟩ := laid_mem (x := ("strconv.ErrRange", Rows.laid_strconv_ErrRange)) hl (by repeat (first | exact List.mem_cons_self .. | apply List.mem_cons_of_mem))
  obtain ⟨_, h3⟩ := laid_mem (x := ("strconv.ErrSyntax", Rows.laid_strconv_ErrSyntax)) hl (by repeat (first | exact List.mem_cons_self .. | apply List.mem_cons_of_mem))
  exact {
    maxLen := cell_of_shapedOpen_int (P := Tryz.prog) (g := 0) (t := 3) (zero := #[.int .i64 0]) h (of_decide_eq_true (by kernel_rfl)) (by kernel_rfl) rfl (by kernel_rfl) (by kernel_rfl) Tryz.underlying3
    pow10 := Lib.tabIs_of_head (k := .u64) (zs := Lib.pow10Tab) (g := 5) (t := 156) (e := 130) (n := 20) (by kernel_rfl) (by kernel_rfl) (by kernel_rfl) (by kernel_rfl) (by kernel_rfl) (by kernel_rfl)
      (show laidMet _ ((_, Lib.tabData .u64 Lib.pow10Tab) :: _) _ from (show Rows.laid_internal_strconv_uint64pow10 = (Lib.tabData .u64 Lib.pow10Tab : DataW Unit) from by kernel_rfl) ▸ h1)
    errS := iface_var h3 (g := 1) (ti := 70) (by kernel_rfl) (by kernel_rfl) Tryz.underlying70
    errR := iface_var h2 (g := 2) (ti := 70) (by kernel_rfl) (by kernel_rfl) Tryz.underlying70 }
end Go.Proofs.YtjdhdjmdmnedfaaGreatDoor
end

section
namespace Go.Proofs.YtjdhdjmdmnedfaaGreatDoor.LTells
open Go.RowKit Go.Proofs.YtjdhdjmdmnedfaaGreatDoor Go.Proofs.YtjdhdjmdmnedfaaGreatDoor.K0 Go.Proofs.YtjdhdjmdmnedfaaGreatDoor.R1 Go.Proofs.YtjdhdjmdmnedfaaGreatDoor.R2 Go.Proofs.YtjdhdjmdmnedfaaGreatDoor.R3 Go.Proofs.YtjdhdjmdmnedfaaGreatDoor.R4 Go.Proofs.YtjdhdjmdmnedfaaGreatDoor.R5 Go.Proofs.YtjdhdjmdmnedfaaGreatDoor.RS Go.Proofs.YtjdhdjmdmnedfaaGreatDoor.RA Go.Proofs.YtjdhdjmdmnedfaaGreatDoorW.PrintWords Go.Proofs.YtjdhdjmdmnedfaaGreatDoorW.PrintLast Go.Proofs.YtjdhdjmdmnedfaaGreatDoorW.PrintMore
attribute [local go_sem] max2_int min2_int max_two min_two max_three min_three max_four min_four
set_option linter.unusedVariables false
set_option linter.unusedSimpArgs false
end Go.Proofs.YtjdhdjmdmnedfaaGreatDoor.LTells
end

section
namespace Go.Proofs.YtjdhdjmdmnedfaaGreatDoor.LTells
open Go.RowKit Go.Proofs.YtjdhdjmdmnedfaaGreatDoor Go.Proofs.YtjdhdjmdmnedfaaGreatDoor.K0 Go.Proofs.YtjdhdjmdmnedfaaGreatDoor.R1 Go.Proofs.YtjdhdjmdmnedfaaGreatDoor.R2 Go.Proofs.YtjdhdjmdmnedfaaGreatDoor.R3 Go.Proofs.YtjdhdjmdmnedfaaGreatDoor.R4 Go.Proofs.YtjdhdjmdmnedfaaGreatDoor.R5 Go.Proofs.YtjdhdjmdmnedfaaGreatDoor.RS Go.Proofs.YtjdhdjmdmnedfaaGreatDoor.RA Go.Proofs.YtjdhdjmdmnedfaaGreatDoorW.PrintWords Go.Proofs.YtjdhdjmdmnedfaaGreatDoorW.PrintLast Go.Proofs.YtjdhdjmdmnedfaaGreatDoorW.PrintMore
attribute [local go_sem] max2_int min2_int max_two min_two max_three min_three max_four min_four
set_option linter.unusedVariables false
set_option linter.unusedSimpArgs false
theorem eqA30 (d : Nat) (w : World) (x0 y0 : Int) (x1 y1 : Int) (x2 y2 : Int) (x3 y3 : ByteArray) (x4 y4 : ByteArray) :
  (Op.equalIn (d + 2) 30 (.agg #[.int .i64 x0, .int .i64 x1, .int .i64 x2, .string x3, .string x4]) (.agg #[.int .i64 y0, .int .i64 y1, .int .i64 y2, .string y3, .string y4])).run Tryz.prog w = .ok (x0 == y0 && (x1 == y1 && (x2 == y2 && (x3.toList == y3.toList && (x4.toList == y4.toList))))) w := by
 refine eqA_of Tryz.underlying30 (by kernel_rfl) ?_; refine eqf_cons (by rfl) (by go_simp; rfl) (by go_simp; rfl) (by go_simp) ?_; refine eqf_cons (by rfl) (by go_simp; rfl) (by go_simp; rfl) (by go_simp) ?_; refine eqf_cons (by rfl) (by go_simp; rfl) (by go_simp; rfl) (by go_simp) ?_; refine eqf_cons (by rfl) (by go_simp; rfl) (by go_simp; rfl) (by go_simp) ?_; exact eqf_last (by rfl) (by go_simp; rfl) (by go_simp; rfl) (by go_simp)
theorem eqA32 (d : Nat) (w : World) (x0 y0 : ByteArray) (x1 y1 : Int) (x2 y2 : Int) (x3 y3 : Int) (x4 y4 : ByteArray) (x5 y5 : ByteArray) (x6 y6 : ByteArray) :
  (Op.equalIn (d + 3) 32 (.agg #[.string x0, .int .i64 x1, .int .i64 x2, .int .i64 x3, .string x4, .string x5, .string x6]) (.agg #[.string y0, .int .i64 y1, .int .i64 y2, .int .i64 y3, .string y4, .string y5, .string y6])).run Tryz.prog w = .ok (x0.toList == y0.toList && ((x1 == y1 && (x2 == y2 && (x3 == y3 && (x4.toList == y4.toList && (x5.toList == y5.toList))))) && (x6.toList == y6.toList))) w := by
 refine eqA_of Tryz.underlying32 (by kernel_rfl) ?_; refine eqf_cons (by rfl) (by go_simp; rfl) (by go_simp; rfl) (by go_simp) ?_; refine eqf_cons (by rfl) (by go_simp) (by go_simp) (eqA30 (d + 0) w _ _ _ _ _ _ _ _ _ _) ?_; exact eqf_last (by rfl) (by go_simp; rfl) (by go_simp; rfl) (by go_simp)
end Go.Proofs.YtjdhdjmdmnedfaaGreatDoor.LTells
end

section
namespace Go.Proofs.YtjdhdjmdmnedfaaGreatDoor.LTells
open Go.RowKit Go.Proofs.YtjdhdjmdmnedfaaGreatDoor Go.Proofs.YtjdhdjmdmnedfaaGreatDoor.K0 Go.Proofs.YtjdhdjmdmnedfaaGreatDoor.R1 Go.Proofs.YtjdhdjmdmnedfaaGreatDoor.R2 Go.Proofs.YtjdhdjmdmnedfaaGreatDoor.R3 Go.Proofs.YtjdhdjmdmnedfaaGreatDoor.R4 Go.Proofs.YtjdhdjmdmnedfaaGreatDoor.R5 Go.Proofs.YtjdhdjmdmnedfaaGreatDoor.RS Go.Proofs.YtjdhdjmdmnedfaaGreatDoor.RA Go.Proofs.YtjdhdjmdmnedfaaGreatDoorW.PrintWords Go.Proofs.YtjdhdjmdmnedfaaGreatDoorW.PrintLast Go.Proofs.YtjdhdjmdmnedfaaGreatDoorW.PrintMore
attribute [local go_sem] max2_int min2_int max_two min_two max_three min_three max_four min_four
set_option linter.unusedVariables false
set_option linter.unusedSimpArgs false
attribute [local go_sem high] eqA32
def armadalaw15_LedgerTells.j0 : Nat → List (S32) → Bool → ByteArray → Int → Int → Int → ByteArray → ByteArray → ByteArray → Option (Bool)
 | 0, _, _, _, _, _, _, _, _, _ => none
 | k + 1, x0, x25, x102000, x102001, x102002, x102003, x102004, x102005, x102006 => if x25 = true then ((armadalaw15_live.f).bind fun t107 => (some t107)) else ((ledger_Text.f x0).bind fun bt108 => ((armadaref15_Text.f x0).bind fun bt110 => ((ledger_Add.f x0 x102000 x102001 x102002 x102003 x102004 x102005 x102006).bind fun bt112 => ((armadaref15_Add.f x0 x102000 x102001 x102002 x102003 x102004 x102005 x102006).bind fun bt116 => ((ledger_Latest.f k x0 x102000).bind fun bt120 => ((armadaref15_Latest.f x0 x102000).bind fun bt129 => (if bt108.1.toList = bt110.1.toList then (if bt108.2 = bt110.2 then ((armadaref15_Same.f k bt112.1 bt116.1).bind fun t138 => (if t138 = true then (if bt112.2 = bt116.2 then (if (bt120.1.toList == bt129.1.toList && ((bt120.2.1 == bt129.2.1 && (bt120.2.2.1 == bt129.2.2.1 && (bt120.2.2.2.1 == bt129.2.2.2.1 && (bt120.2.2.2.2.1.toList == bt129.2.2.2.2.1.toList && (bt120.2.2.2.2.2.1.toList == bt129.2.2.2.2.2.1.toList))))) && (bt120.2.2.2.2.2.2.1.toList == bt129.2.2.2.2.2.2.1.toList))) = true then (if (bt120.2.2.2.2.2.2.2 == bt129.2.2.2.2.2.2.2) = true then ((armadalaw15_live.f).bind fun t139 => (some t139)) else (some false)) else (some false)) else (some false)) else (some false))) else (some false)) else (some false))))))))
def armadalaw15_LedgerTells.f (k : Nat) (l0 : List (S32)) (a1_0 : ByteArray) (a1_1 : Int) (a1_2 : Int) (a1_3 : Int) (a1_4 : ByteArray) (a1_5 : ByteArray) (a1_6 : ByteArray) : Option (Bool) := (armadaref15_Few.f k l0).bind fun t102 => (if t102 = true then ((armadaref15_Few.f k (([(⟨a1_0, (⟨a1_1, a1_2, a1_3, a1_4, a1_5⟩ : S30), a1_6⟩ : S32)] : List (S32)))).bind fun t106 => (armadalaw15_LedgerTells.j0 k l0 (!t106) a1_0 a1_1 a1_2 a1_3 a1_4 a1_5 a1_6)) else (armadalaw15_LedgerTells.j0 k l0 true a1_0 a1_1 a1_2 a1_3 a1_4 a1_5 a1_6))
set_option maxHeartbeats 8000000 in
set_option maxRecDepth 100000 in
theorem armadalaw15_LedgerTells.calls (k : Nat) (A0 : Option Addr) (c0 : Nat) (l0 : List (S32)) (a1_0 : ByteArray) (a1_1 : Int) (a1_2 : Int) (a1_3 : Int) (a1_4 : ByteArray) (a1_5 : ByteArray) (a1_6 : ByteArray) (r : Bool) (w : World) (hr0 : Kd.C k32 w A0 l0.length l0) (hc0 : l0.length ≤ c0) (hG : GW w) (hT : r = true) (h : armadalaw15_LedgerTells.f k l0 a1_0 a1_1 a1_2 a1_3 a1_4 a1_5 a1_6 = some r) :
  Calls Tryz.prog 4 #[.slice A0 l0.length c0, .agg #[.string a1_0, .int .i64 a1_1, .int .i64 a1_2, .int .i64 a1_3, .string a1_4, .string a1_5, .string a1_6]] w fun e w' => e = .returned (.bool r) ∧ Below w.heap.size w w' := by
 have hu32 := Tryz.underlying32; have HR0 := Aside0.mk hr0; have HC0 := Aside0.mk hc0; clear hr0 hc0; have HGW := Aside0.mk hG; clear hG; have HTRU_ := Aside0.mk hT; clear hT; have HB := Aside0.mk (Below.refl w.heap.size w); have H : ((armadaref15_Few.f k l0).bind fun t102 => (if t102 = true then ((armadaref15_Few.f k (([(⟨a1_0, (⟨a1_1, a1_2, a1_3, a1_4, a1_5⟩ : S30), a1_6⟩ : S32)] : List (S32)))).bind fun t106 => (armadalaw15_LedgerTells.j0 k l0 (!t106) a1_0 a1_1 a1_2 a1_3 a1_4 a1_5 a1_6)) else (armadalaw15_LedgerTells.j0 k l0 true a1_0 a1_1 a1_2 a1_3 a1_4 a1_5 a1_6))) = some r := h; clear h; have HC3 := Aside0.mk H; clear H; go_enter Tryz.func4, Tryz.ntmps4; go_upto_region 1 with (first | ((with_reducible refine gate_dst (N := 3) rfl ?_); (try (refine gate_guard (by rfl) ?_; dsimp only)); refine box_event ?hg (N := 3) ?hd (cs := #[.string a1_0, .int .i64 a1_1, .int .i64 a1_2, .int .i64 a1_3, .string a1_4, .string a1_5, .string a1_6]) (t := 32) ?hr ?_; (case hd => rfl); (case hg => rfl); (case hr => first | (go_simp; done) | (go_simp; rfl)); intro gb101 hg w4 hbox hb; have BK101 := Aside0.mk (hbox); have GW101 := Aside0.mk ((by rw [hg]; exact (below_size xB) : w.heap.size ≤ gb101)); have GE101 := Aside0.mk ((by rw [hg]; exact (below_size xB) : w.heap.size ≤ gb101)); replace HB := Aside0.mk (below_step xB hb); clear hb hbox hg))
 (try simp only [Act.put, z1, z2, z3])
 go_cut [25] (fun v25 wc => ∃ (kq : Nat) (x25_2 : Bool), v25 = .bool x25_2 ∧ Aside0 (armadalaw15_LedgerTells.j0 kq l0 x25_2 a1_0 a1_1 a1_2 a1_3 a1_4 a1_5 a1_6 = some r) ∧ Aside0 (kq ≤ k) ∧ Aside0 (wc.heap[gb101]? = some (.cells #[.string a1_0, .int .i64 a1_1, .int .i64 a1_2, .int .i64 a1_3, .string a1_4, .string a1_5, .string a1_6] 32 (0, 0))) ∧ Aside0 (Below w.heap.size w wc))
 case first =>
  have H := HC3.out; clear HC3; replace H := xb H; obtain ⟨t102, A5, H⟩ := H
  by_cases c6 : t102 = true
  ·
   subst c6; rw [if_pos rfl] at H; obtain ⟨y103, hy103⟩ : ∃ y_ : List (S32), y_ = (([(⟨a1_0, (⟨a1_1, a1_2, a1_3, a1_4, a1_5⟩ : S30), a1_6⟩ : S32)] : List (S32))) := ⟨_, rfl⟩
   replace H : ((armadaref15_Few.f k y103).bind fun t106 => (armadalaw15_LedgerTells.j0 k l0 (!t106) a1_0 a1_1 a1_2 a1_3 a1_4 a1_5 a1_6)) = some r := by first | (rw [hy103]; with_reducible exact H) | (have H2_ := (Option.bind_some _ _).symm.trans H; rw [hy103]; with_reducible exact H2_) | (have H2_ := (Option.bind_some _ _).symm.trans H; with_reducible exact H2_) | with_reducible exact H | (rw [hy103]; exact H) | exact H
   have Ny103 := Aside0.mk hy103; clear hy103; replace H := xb H; obtain ⟨t106, A7, H⟩ := H; have H' := Aside0.mk H; clear H; go_wp2_with (first | ((with_reducible refine gate_callee (f := 9) rfl ?_); refine goesL_ (some 18) rfl rfl Tryz.func9 (by kernel_rfl) rfl #[.slice A0 l0.length c0] rfl xS ?_; (with_reducible refine (armadaref15_Few.calls k _ _ l0 true _ ?side1 ?side2 A5.out).mono ?_); (case side1 => repeat (first | exact (Kd.C_below HR0.out HB.out) | (with_reducible refine Kd.C_alloc ?_ _) | (with_reducible refine Kd.C_drewN ?_ _) | (with_reducible refine Kd.C_drew ?_))); (case side2 => exact HC0.out); rintro e w' ⟨rfl, ⟨nd, rfl⟩⟩; refine ⟨_, rfl, ?_⟩; obtain ⟨hcz8_0, hcz8_1, hcz8_2, hcz8_3, hcz8_4, hcz8_5, hcz8_6⟩ := xC7 BK101.out; obtain ⟨hfz8_0, hfz8_1, hfz8_2, hfz8_3, hfz8_4, hfz8_5, hfz8_6⟩ := xF7 BK101.out) | ((with_reducible refine gate_dst (N := 22) rfl ?_); (try (refine gate_guard (by rfl) ?_; dsimp only)); refine Kd.R_lit k32 _ 32 ?hg (N := 22) ?hd (xs := ([(⟨a1_0, (⟨a1_1, a1_2, a1_3, a1_4, a1_5⟩ : S30), a1_6⟩ : S32)] : List (S32))) (inner := [.string a1_0, .int .i64 a1_1, .int .i64 a1_2, .int .i64 a1_3, .string a1_4, .string a1_5, .string a1_6]) (ok := fun _ => True) (okp := fun _ => True) ?hr ?hp (fun _ hk => hk) trivial (Below.refl _ _) (Nat.le_refl _) (by simp) ?_; (case hd => rfl); (case hg => rfl); (case hr => first | (go_simp; done) | (go_simp; rfl)); (case hp => exact (Reps.c7 (show Kd.M k32 _ _ _ (⟨a1_0, (⟨a1_1, a1_2, a1_3, a1_4, a1_5⟩ : S30), a1_6⟩ : S32) [.string a1_0, .int .i64 a1_1, .int .i64 a1_2, .int .i64 a1_3, .string a1_4, .string a1_5, .string a1_6] from (k32_mkM _ _ _ (⟨a1_0, (⟨a1_1, a1_2, a1_3, a1_4, a1_5⟩ : S30), a1_6⟩ : S32) )) (Reps.none _ _))); intro v104 w9 ho10 hb hg_ hnew_; clear hg_ hnew_; (first | rw [← Ny103.out] at ho10 | (simp only [Int.reduceToNat] at ho10; rw [← Ny103.out] at ho10)); have HO105 := Aside0.mk (Kd.R_lower (Kd.R_newB ho10 (g := gb101) (o := .cells #[.string a1_0, .int .i64 a1_1, .int .i64 a1_2, .int .i64 a1_3, .string a1_4, .string a1_5, .string a1_6] 32 (0, 0)) xK) (below_size xB)); replace BK101 := Aside0.mk (blk_below (g := gb101) (o := .cells #[.string a1_0, .int .i64 a1_1, .int .i64 a1_2, .int .i64 a1_3, .string a1_4, .string a1_5, .string a1_6] 32 (0, 0)) xK hb); replace HB := Aside0.mk (below_step xB hb); clear hb ho10; obtain ⟨Ao11, co11, eo11⟩ := Kd.R_slice HO105.out; subst eo11) | (go_at_call 9; (with_reducible refine (armadaref15_Few.calls k _ _ y103 t106 _ ?side1 ?side2 A7.out).mono ?_); (case side1 => repeat (first | exact (Kd.R_reads' HO105.out).2.2 | (with_reducible refine Kd.C_alloc ?_ _) | (with_reducible refine Kd.C_drewN ?_ _) | (with_reducible refine Kd.C_drew ?_))); (case side2 => exact (Kd.R_reads' HO105.out).2.1); rintro e w' ⟨rfl, ⟨nd, rfl⟩⟩)); go_meet
   case rel => exact ⟨_, (!t106), xR, H', ⟨by first | omega | exact Nat.le_refl _⟩, ⟨by (with_reducible repeat (first | refine blk_drewN ?_ _ | refine blk_drew ?_ | refine blk_alloc ?_ _)); exact BK101.out⟩, ⟨xB⟩⟩
  replace c6 := Bool.eq_false_iff.mpr c6; subst c6; rw [if_neg (show ¬ (false = true) by decide)] at H; have H' := Aside0.mk H; clear H; go_wp2_with (first | ((with_reducible refine gate_callee (f := 9) rfl ?_); refine goesL_ (some 18) rfl rfl Tryz.func9 (by kernel_rfl) rfl #[.slice A0 l0.length c0] rfl xS ?_; (with_reducible refine (armadaref15_Few.calls k _ _ l0 false _ ?side1 ?side2 A5.out).mono ?_); (case side1 => repeat (first | exact (Kd.C_below HR0.out HB.out) | (with_reducible refine Kd.C_alloc ?_ _) | (with_reducible refine Kd.C_drewN ?_ _) | (with_reducible refine Kd.C_drew ?_))); (case side2 => exact HC0.out); rintro e w' ⟨rfl, ⟨nd, rfl⟩⟩; refine ⟨_, rfl, ?_⟩)); go_meet
  case rel => exact ⟨_, (true), xR, H', ⟨by first | omega | exact Nat.le_refl _⟩, ⟨by (with_reducible repeat (first | refine blk_drewN ?_ _ | refine blk_drew ?_ | refine blk_alloc ?_ _)); exact BK101.out⟩, ⟨xB⟩⟩
 case rest =>
  clear HC3
  try clear p2
  try clear c4
  try clear c6
  try clear c7
  try clear c9
  try clear hcz8_0
  try clear hcz8_1
  try clear hcz8_2
  try clear hcz8_3
  try clear hcz8_4
  try clear hcz8_5
  try clear hcz8_6
  try clear hfz8_0
  try clear hfz8_1
  try clear hfz8_2
  try clear hfz8_3
  try clear hfz8_4
  try clear hfz8_5
  try clear hfz8_6
  obtain ⟨kq, x25_2, rfl, HA, HJ2, BK101, HB⟩ := hcut
  cases kq with
  | zero => exact absurd HA.out (by simp [armadalaw15_LedgerTells.j0])
  | succ kj2 =>
   have H := HA.out; clear HA; simp only [armadalaw15_LedgerTells.j0] at H
   by_cases c12 : x25_2 = true
   ·
    subst c12; rw [if_pos rfl] at H; replace H := xb H; obtain ⟨t107, A13, H⟩ := H; obtain rfl := Option.some.inj H; go_wp2_with (first | ((with_reducible refine gate_callee (f := 5) rfl ?_); refine goesL_ (some 26) rfl rfl Tryz.func5 (by kernel_rfl) rfl #[] rfl xS ?_; (with_reducible refine (armadalaw15_live.calls  t107 _ ?side1 ?side2 A13.out).mono ?_); (case side1 => exact GW.below HGW.out xB); (case side2 => exact HTRU_.out); rintro e w14 ⟨rfl, hb⟩; refine ⟨_, rfl, ?_⟩; replace BK101 := Aside0.mk (blk_below (g := gb101) (o := .cells #[.string a1_0, .int .i64 a1_1, .int .i64 a1_2, .int .i64 a1_3, .string a1_4, .string a1_5, .string a1_6] 32 (0, 0)) xK hb); replace HB := Aside0.mk (below_step xB hb); (try clear hb))); go_ret; exact ⟨xW, xB⟩
   replace c12 := Bool.eq_false_iff.mpr c12; subst c12; rw [if_neg (show ¬ (false = true) by decide)] at H; replace H := Option.bind_eq_some_iff.mp H; obtain ⟨⟨t108, t109⟩, A150, H⟩ := H; replace H : ((armadaref15_Text.f l0).bind fun bt110 => ((ledger_Add.f l0 a1_0 a1_1 a1_2 a1_3 a1_4 a1_5 a1_6).bind fun bt112 => ((armadaref15_Add.f l0 a1_0 a1_1 a1_2 a1_3 a1_4 a1_5 a1_6).bind fun bt116 => ((ledger_Latest.f kj2 l0 a1_0).bind fun bt120 => ((armadaref15_Latest.f l0 a1_0).bind fun bt129 => (if t108.toList = bt110.1.toList then (if t109 = bt110.2 then ((armadaref15_Same.f kj2 bt112.1 bt116.1).bind fun t138 => (if t138 = true then (if bt112.2 = bt116.2 then (if (bt120.1.toList == bt129.1.toList && ((bt120.2.1 == bt129.2.1 && (bt120.2.2.1 == bt129.2.2.1 && (bt120.2.2.2.1 == bt129.2.2.2.1 && (bt120.2.2.2.2.1.toList == bt129.2.2.2.2.1.toList && (bt120.2.2.2.2.2.1.toList == bt129.2.2.2.2.2.1.toList))))) && (bt120.2.2.2.2.2.2.1.toList == bt129.2.2.2.2.2.2.1.toList))) = true then (if (bt120.2.2.2.2.2.2.2 == bt129.2.2.2.2.2.2.2) = true then ((armadalaw15_live.f).bind fun t139 => (some t139)) else (some false)) else (some false)) else (some false)) else (some false))) else (some false)) else (some false))))))) = some r := H; have A15 := Aside0.mk A150; clear A150; replace H := Option.bind_eq_some_iff.mp H; obtain ⟨⟨t110, t111⟩, A160, H⟩ := H; replace H : ((ledger_Add.f l0 a1_0 a1_1 a1_2 a1_3 a1_4 a1_5 a1_6).bind fun bt112 => ((armadaref15_Add.f l0 a1_0 a1_1 a1_2 a1_3 a1_4 a1_5 a1_6).bind fun bt116 => ((ledger_Latest.f kj2 l0 a1_0).bind fun bt120 => ((armadaref15_Latest.f l0 a1_0).bind fun bt129 => (if t108.toList = t110.toList then (if t109 = t111 then ((armadaref15_Same.f kj2 bt112.1 bt116.1).bind fun t138 => (if t138 = true then (if bt112.2 = bt116.2 then (if (bt120.1.toList == bt129.1.toList && ((bt120.2.1 == bt129.2.1 && (bt120.2.2.1 == bt129.2.2.1 && (bt120.2.2.2.1 == bt129.2.2.2.1 && (bt120.2.2.2.2.1.toList == bt129.2.2.2.2.1.toList && (bt120.2.2.2.2.2.1.toList == bt129.2.2.2.2.2.1.toList))))) && (bt120.2.2.2.2.2.2.1.toList == bt129.2.2.2.2.2.2.1.toList))) = true then (if (bt120.2.2.2.2.2.2.2 == bt129.2.2.2.2.2.2.2) = true then ((armadalaw15_live.f).bind fun t139 => (some t139)) else (some false)) else (some false)) else (some false)) else (some false))) else (some false)) else (some false)))))) = some r := H; have A16 := Aside0.mk A160; clear A160; replace H := Option.bind_eq_some_iff.mp H; obtain ⟨⟨t112, t115⟩, A170, H⟩ := H; replace H : ((armadaref15_Add.f l0 a1_0 a1_1 a1_2 a1_3 a1_4 a1_5 a1_6).bind fun bt116 => ((ledger_Latest.f kj2 l0 a1_0).bind fun bt120 => ((armadaref15_Latest.f l0 a1_0).bind fun bt129 => (if t108.toList = t110.toList then (if t109 = t111 then ((armadaref15_Same.f kj2 t112 bt116.1).bind fun t138 => (if t138 = true then (if t115 = bt116.2 then (if (bt120.1.toList == bt129.1.toList && ((bt120.2.1 == bt129.2.1 && (bt120.2.2.1 == bt129.2.2.1 && (bt120.2.2.2.1 == bt129.2.2.2.1 && (bt120.2.2.2.2.1.toList == bt129.2.2.2.2.1.toList && (bt120.2.2.2.2.2.1.toList == bt129.2.2.2.2.2.1.toList))))) && (bt120.2.2.2.2.2.2.1.toList == bt129.2.2.2.2.2.2.1.toList))) = true then (if (bt120.2.2.2.2.2.2.2 == bt129.2.2.2.2.2.2.2) = true then ((armadalaw15_live.f).bind fun t139 => (some t139)) else (some false)) else (some false)) else (some false)) else (some false))) else (some false)) else (some false))))) = some r := H; have A17 := Aside0.mk A170; clear A170; replace H := Option.bind_eq_some_iff.mp H; obtain ⟨⟨t116, t119⟩, A180, H⟩ := H; replace H : ((ledger_Latest.f kj2 l0 a1_0).bind fun bt120 => ((armadaref15_Latest.f l0 a1_0).bind fun bt129 => (if t108.toList = t110.toList then (if t109 = t111 then ((armadaref15_Same.f kj2 t112 t116).bind fun t138 => (if t138 = true then (if t115 = t119 then (if (bt120.1.toList == bt129.1.toList && ((bt120.2.1 == bt129.2.1 && (bt120.2.2.1 == bt129.2.2.1 && (bt120.2.2.2.1 == bt129.2.2.2.1 && (bt120.2.2.2.2.1.toList == bt129.2.2.2.2.1.toList && (bt120.2.2.2.2.2.1.toList == bt129.2.2.2.2.2.1.toList))))) && (bt120.2.2.2.2.2.2.1.toList == bt129.2.2.2.2.2.2.1.toList))) = true then (if (bt120.2.2.2.2.2.2.2 == bt129.2.2.2.2.2.2.2) = true then ((armadalaw15_live.f).bind fun t139 => (some t139)) else (some false)) else (some false)) else (some false)) else (some false))) else (some false)) else (some false)))) = some r := H
   have A18 := Aside0.mk A180; clear A180; replace H := Option.bind_eq_some_iff.mp H; obtain ⟨⟨t120, t121, t122, t123, t124, t125, t126, t127⟩, A190, H⟩ := H; replace H : ((armadaref15_Latest.f l0 a1_0).bind fun bt129 => (if t108.toList = t110.toList then (if t109 = t111 then ((armadaref15_Same.f kj2 t112 t116).bind fun t138 => (if t138 = true then (if t115 = t119 then (if (t120.toList == bt129.1.toList && ((t121 == bt129.2.1 && (t122 == bt129.2.2.1 && (t123 == bt129.2.2.2.1 && (t124.toList == bt129.2.2.2.2.1.toList && (t125.toList == bt129.2.2.2.2.2.1.toList))))) && (t126.toList == bt129.2.2.2.2.2.2.1.toList))) = true then (if (t127 == bt129.2.2.2.2.2.2.2) = true then ((armadalaw15_live.f).bind fun t139 => (some t139)) else (some false)) else (some false)) else (some false)) else (some false))) else (some false)) else (some false))) = some r := H; have A19 := Aside0.mk A190; clear A190; replace H := Option.bind_eq_some_iff.mp H; obtain ⟨⟨t129, t130, t131, t132, t133, t134, t135, t136⟩, A200, H⟩ := H; replace H : (if t108.toList = t110.toList then (if t109 = t111 then ((armadaref15_Same.f kj2 t112 t116).bind fun t138 => (if t138 = true then (if t115 = t119 then (if (t120.toList == t129.toList && ((t121 == t130 && (t122 == t131 && (t123 == t132 && (t124.toList == t133.toList && (t125.toList == t134.toList))))) && (t126.toList == t135.toList))) = true then (if (t127 == t136) = true then ((armadalaw15_live.f).bind fun t139 => (some t139)) else (some false)) else (some false)) else (some false)) else (some false))) else (some false)) else (some false)) = some r := H; have A20 := Aside0.mk A200; clear A200; replace H := xJ H; rcases H with ⟨c21, H⟩ | ⟨c21, H⟩
   ·
    have c21b0 := beq_iff_eq.mpr c21; have c21b1 := bne_eq_false_iff_eq.mpr c21; clear c21; replace H := xJ H; rcases H with ⟨c22, H⟩ | ⟨c22, H⟩
    ·
     have c22b0 := beq_iff_eq.mpr c22; have c22b1 := bne_eq_false_iff_eq.mpr c22; clear c22; replace H := xb H; obtain ⟨t138, A23, H⟩ := H
     by_cases c24 : t138 = true
     ·
      subst c24; rw [if_pos rfl] at H; replace H := xJ H; rcases H with ⟨c25, H⟩ | ⟨c25, H⟩
      ·
       have c25b0 := beq_iff_eq.mpr c25; have c25b1 := bne_eq_false_iff_eq.mpr c25; clear c25; replace H := xJ H; rcases H with ⟨c26, H⟩ | ⟨c26, H⟩
       ·
        have c26b0 : (t120.toList == t129.toList && ((t121 == t130 && (t122 == t131 && (t123 == t132 && (t124.toList == t133.toList && (t125.toList == t134.toList))))) && (t126.toList == t135.toList))) = true := c26
        (try (have c26b1 : decide (t120.toList = t129.toList && ((t121 == t130 && (t122 == t131 && (t123 == t132 && (t124.toList == t133.toList && (t125.toList == t134.toList))))) && (t126.toList == t135.toList))) = true := by simpa using c26))
        (try (have c26b2 : (t120.toList == t129.toList && ((t121 == t130 && (t122 == t131 && (t123 == t132 && (t124.toList == t133.toList && (t125.toList == t134.toList))))) && (t126.toList == t135.toList))) = true := by simpa using c26))
        clear c26; replace H := xJ H; rcases H with ⟨c27, H⟩ | ⟨c27, H⟩
        ·
         have c27b0 : (t127 == t136) = true := c27
         (try (have c27b1 : decide (t127 = t136) = true := by simpa using c27))
         (try (have c27b2 : (t127 == t136) = true := by simpa using c27))
         clear c27; replace H := xb H; obtain ⟨t139, A28, H⟩ := H; obtain rfl := Option.some.inj H; go_wp2_with (first | ((with_reducible refine gate_callee (f := 10) rfl ?_); refine goesL_ (some 29) rfl rfl Tryz.func10 (by kernel_rfl) rfl #[.slice A0 l0.length c0] rfl xS ?_; (with_reducible refine (ledger_Text.calls _ _ l0 t108 t109 _ ?side1 ?side2 ?side3 A15.out).mono ?_); (case side1 => repeat (first | exact (Kd.C_below HR0.out HB.out) | (with_reducible refine Kd.C_alloc ?_ _) | (with_reducible refine Kd.C_drewN ?_ _) | (with_reducible refine Kd.C_drew ?_))); (case side2 => exact HC0.out); (case side3 => exact GW.below HGW.out xB); rintro e w29 ⟨rfl, hb⟩; refine ⟨_, rfl, ?_⟩; replace BK101 := Aside0.mk (blk_below (g := gb101) (o := .cells #[.string a1_0, .int .i64 a1_1, .int .i64 a1_2, .int .i64 a1_3, .string a1_4, .string a1_5, .string a1_6] 32 (0, 0)) xK hb); replace HB := Aside0.mk (below_step xB hb); (try clear hb); (try clear hk)) | ((with_reducible refine gate_callee (f := 11) rfl ?_); refine goesL_ (some 34) rfl rfl Tryz.func11 (by kernel_rfl) rfl #[.slice A0 l0.length c0] rfl xS ?_; (with_reducible refine (armadaref15_Text.calls _ _ l0 t110 t111 _ ?side1 ?side2 A16.out).mono ?_); (case side1 => repeat (first | exact (Kd.C_below HR0.out HB.out) | (with_reducible refine Kd.C_alloc ?_ _) | (with_reducible refine Kd.C_drewN ?_ _) | (with_reducible refine Kd.C_drew ?_))); (case side2 => exact HC0.out); rintro e w30 ⟨rfl, hb⟩; refine ⟨_, rfl, ?_⟩; replace BK101 := Aside0.mk (blk_below (g := gb101) (o := .cells #[.string a1_0, .int .i64 a1_1, .int .i64 a1_2, .int .i64 a1_3, .string a1_4, .string a1_5, .string a1_6] 32 (0, 0)) xK hb); replace HB := Aside0.mk (below_step xB hb); (try clear hb); (try clear hk); obtain ⟨hcz31_0, hcz31_1, hcz31_2, hcz31_3, hcz31_4, hcz31_5, hcz31_6⟩ := xC7 BK101.out; obtain ⟨hfz31_0, hfz31_1, hfz31_2, hfz31_3, hfz31_4, hfz31_5, hfz31_6⟩ := xF7 BK101.out) | ((with_reducible refine gate_callee (f := 12) rfl ?_); refine goesL_ (some 40) rfl rfl Tryz.func12 (by kernel_rfl) rfl #[.slice A0 l0.length c0, .agg #[.string a1_0, .int .i64 a1_1, .int .i64 a1_2, .int .i64 a1_3, .string a1_4, .string a1_5, .string a1_6]] rfl xS ?_; (with_reducible refine (ledger_Add.calls _ _ l0 a1_0 a1_1 a1_2 a1_3 a1_4 a1_5 a1_6 t112 t115 _ ?side1 ?side2 ?side3 A17.out).mono ?_); (case side1 => repeat (first | exact (Kd.C_below HR0.out HB.out) | (with_reducible refine Kd.C_alloc ?_ _) | (with_reducible refine Kd.C_drewN ?_ _) | (with_reducible refine Kd.C_drew ?_))); (case side2 => exact HC0.out); (case side3 => exact GW.below HGW.out xB); rintro e w32 ⟨v113, rfl, ho0, hb⟩; refine ⟨_, rfl, ?_⟩; have HO114 := Aside0.mk (Kd.R_lower (Kd.R_newB ho0 (g := gb101) (o := .cells #[.string a1_0, .int .i64 a1_1, .int .i64 a1_2, .int .i64 a1_3, .string a1_4, .string a1_5, .string a1_6] 32 (0, 0)) xK) (below_size xB)); replace BK101 := Aside0.mk (blk_below (g := gb101) (o := .cells #[.string a1_0, .int .i64 a1_1, .int .i64 a1_2, .int .i64 a1_3, .string a1_4, .string a1_5, .string a1_6] 32 (0, 0)) xK hb); replace HB := Aside0.mk (below_step xB hb); (try clear hb); (try clear hk); (try clear ho0); obtain ⟨hcz33_0, hcz33_1, hcz33_2, hcz33_3, hcz33_4, hcz33_5, hcz33_6⟩ := xC7 BK101.out; obtain ⟨hfz33_0, hfz33_1, hfz33_2, hfz33_3, hfz33_4, hfz33_5, hfz33_6⟩ := xF7 BK101.out) | ((with_reducible refine gate_callee (f := 13) rfl ?_); refine goesL_ (some 46) rfl rfl Tryz.func13 (by kernel_rfl) rfl #[.slice A0 l0.length c0, .agg #[.string a1_0, .int .i64 a1_1, .int .i64 a1_2, .int .i64 a1_3, .string a1_4, .string a1_5, .string a1_6]] rfl xS ?_; (with_reducible refine (armadaref15_Add.calls _ _ l0 a1_0 a1_1 a1_2 a1_3 a1_4 a1_5 a1_6 t116 t119 _ ?side1 ?side2 A18.out).mono ?_); (case side1 => repeat (first | exact (Kd.C_below HR0.out HB.out) | (with_reducible refine Kd.C_alloc ?_ _) | (with_reducible refine Kd.C_drewN ?_ _) | (with_reducible refine Kd.C_drew ?_))); (case side2 => exact HC0.out); rintro e w34 ⟨v117, rfl, ho0, hb⟩; refine ⟨_, rfl, ?_⟩; have HO118 := Aside0.mk (Kd.R_lower (Kd.R_newB (Kd.R_new' ho0 (Kd.R_lt (by (with_reducible repeat (first | apply Kd.R_alloc | apply Kd.R_drewN | apply Kd.R_drew)); exact HO114.out))) (g := gb101) (o := .cells #[.string a1_0, .int .i64 a1_1, .int .i64 a1_2, .int .i64 a1_3, .string a1_4, .string a1_5, .string a1_6] 32 (0, 0)) xK) (below_size xB)); replace HO114 := Aside0.mk (Kd.R_elder' (by (with_reducible repeat (first | apply Kd.R_alloc | apply Kd.R_drewN | apply Kd.R_drew)); exact HO114.out) (Kd.R_base ho0) hb); replace BK101 := Aside0.mk (blk_below (g := gb101) (o := .cells #[.string a1_0, .int .i64 a1_1, .int .i64 a1_2, .int .i64 a1_3, .string a1_4, .string a1_5, .string a1_6] 32 (0, 0)) xK hb); replace HB := Aside0.mk (below_step xB hb); (try clear hb); (try clear hk); (try clear ho0); obtain ⟨hcz35_0, hcz35_1, hcz35_2, hcz35_3, hcz35_4, hcz35_5, hcz35_6⟩ := xC7 BK101.out; obtain ⟨hfz35_0, hfz35_1, hfz35_2, hfz35_3, hfz35_4, hfz35_5, hfz35_6⟩ := xF7 BK101.out) | ((with_reducible refine gate_callee (f := 14) rfl ?_); refine goesL_ (some 53) rfl rfl Tryz.func14 (by kernel_rfl) rfl #[.slice A0 l0.length c0, .string a1_0] rfl xS ?_; (with_reducible refine (ledger_Latest.calls kj2 _ _ l0 a1_0 t120 t121 t122 t123 t124 t125 t126 t127 _ ?side1 ?side2 ?side3 A19.out).mono ?_); (case side1 => repeat (first | exact (Kd.C_below HR0.out HB.out) | (with_reducible refine Kd.C_alloc ?_ _) | (with_reducible refine Kd.C_drewN ?_ _) | (with_reducible refine Kd.C_drew ?_))); (case side2 => exact HC0.out); (case side3 => exact GW.below HGW.out xB); rintro e w36 ⟨rfl, hb⟩; refine ⟨_, rfl, ?_⟩; replace HO114 := Aside0.mk (Kd.R_below (by (with_reducible repeat (first | apply Kd.R_alloc | apply Kd.R_drewN | apply Kd.R_drew)); exact HO114.out) hb); replace HO118 := Aside0.mk (Kd.R_below (by (with_reducible repeat (first | apply Kd.R_alloc | apply Kd.R_drewN | apply Kd.R_drew)); exact HO118.out) hb); replace BK101 := Aside0.mk (blk_below (g := gb101) (o := .cells #[.string a1_0, .int .i64 a1_1, .int .i64 a1_2, .int .i64 a1_3, .string a1_4, .string a1_5, .string a1_6] 32 (0, 0)) xK hb); replace HB := Aside0.mk (below_step xB hb); (try clear hb); (try clear hk)) | ((with_reducible refine gate_dst (N := 13) rfl ?_); (try (refine gate_guard (by rfl) ?_; dsimp only)); refine box_event ?hg (N := 13) ?hd (cs := #[.string (⟨#[]⟩ : ByteArray), .int .i64 0, .int .i64 0, .int .i64 0, .string (⟨#[]⟩ : ByteArray), .string (⟨#[]⟩ : ByteArray), .string (⟨#[]⟩ : ByteArray)]) (t := 32) ?hr ?_; (case hd => rfl); (case hg => rfl); (case hr => first | (go_simp; done) | (go_simp; rfl)); intro gb128 hg w37 hbox hb; replace HO114 := Aside0.mk (Kd.R_below (Kd.R_elderB (by (with_reducible repeat (first | apply Kd.R_alloc | apply Kd.R_drewN | apply Kd.R_drew)); exact HO114.out) gb128 (Nat.le_of_eq hg.symm)) hb); replace HO118 := Aside0.mk (Kd.R_below (Kd.R_elderB (by (with_reducible repeat (first | apply Kd.R_alloc | apply Kd.R_drewN | apply Kd.R_drew)); exact HO118.out) gb128 (Nat.le_of_eq hg.symm)) hb); have GW128 := Aside0.mk ((by rw [hg]; exact (below_size xB) : w.heap.size ≤ gb128)); have GE128 := Aside0.mk ((by rw [hg]; exact (below_size xB) : w.heap.size ≤ gb128)); have NB101_128 := Aside0.mk ((by rw [hg]; exact Nat.ne_of_lt (blk_lt (g := gb101) (o := .cells #[.string a1_0, .int .i64 a1_1, .int .i64 a1_2, .int .i64 a1_3, .string a1_4, .string a1_5, .string a1_6] 32 (0, 0)) xK) : gb101 ≠ gb128)); have NB128_101 := Aside0.mk ((by rw [hg]; exact Nat.ne_of_gt (blk_lt (g := gb101) (o := .cells #[.string a1_0, .int .i64 a1_1, .int .i64 a1_2, .int .i64 a1_3, .string a1_4, .string a1_5, .string a1_6] 32 (0, 0)) xK) : gb128 ≠ gb101)); replace BK101 := Aside0.mk (blk_below (g := gb101) (o := .cells #[.string a1_0, .int .i64 a1_1, .int .i64 a1_2, .int .i64 a1_3, .string a1_4, .string a1_5, .string a1_6] 32 (0, 0)) xK hb); have BK128 := Aside0.mk (hbox); replace HB := Aside0.mk (below_step xB hb); clear hb hbox hg; have hnb38 := NB128_101.out; have hnc38 := NB101_128.out; obtain ⟨hcz39_0, hcz39_1, hcz39_2, hcz39_3, hcz39_4, hcz39_5, hcz39_6⟩ := xC7 BK128.out; obtain ⟨hfz39_0, hfz39_1, hfz39_2, hfz39_3, hfz39_4, hfz39_5, hfz39_6⟩ := xF7 BK128.out; obtain ⟨hcz40_0, hcz40_1, hcz40_2, hcz40_3, hcz40_4, hcz40_5, hcz40_6⟩ := xC7 BK101.out; obtain ⟨hfz40_0, hfz40_1, hfz40_2, hfz40_3, hfz40_4, hfz40_5, hfz40_6⟩ := xF7 BK101.out) | ((with_reducible refine gate_callee (f := 15) rfl ?_); refine goesL_ (some 60) rfl rfl Tryz.func15 (by kernel_rfl) rfl #[.slice A0 l0.length c0, .string a1_0] rfl xS ?_; (with_reducible refine (armadaref15_Latest.calls _ _ l0 a1_0 t129 t130 t131 t132 t133 t134 t135 t136 _ ?side1 ?side2 A20.out).mono ?_); (case side1 => exact Kd.C_below HR0.out xB); (case side2 => exact HC0.out); rintro e w41 ⟨rfl, hb⟩; refine ⟨_, rfl, ?_⟩; replace HO114 := Aside0.mk (Kd.R_below (by (with_reducible repeat (first | apply Kd.R_alloc | apply Kd.R_drewN | apply Kd.R_drew)); exact (Kd.R_mono (Kd.R_far (p := ⟨gb128, 6, none⟩) (Kd.R_far (p := ⟨gb128, 5, none⟩) (Kd.R_far (p := ⟨gb128, 4, none⟩) (Kd.R_far (p := ⟨gb128, 3, none⟩) (Kd.R_far (p := ⟨gb128, 2, none⟩) (Kd.R_far (p := ⟨gb128, 1, none⟩) (Kd.R_far (p := ⟨gb128, 0, none⟩) (Kd.R_mono HO114.out (fun k_ hk => (⟨hk, hk.2⟩ : _ ∧ k_ ≠ gb128))) (fun _ hk => hk.2) (.string t120)) (fun _ hk => hk.2) (.int .i64 t121)) (fun _ hk => hk.2) (.int .i64 t122)) (fun _ hk => hk.2) (.int .i64 t123)) (fun _ hk => hk.2) (.string t124)) (fun _ hk => hk.2) (.string t125)) (fun _ hk => hk.2) (.string t126)) (fun _ h_ => h_.1))) hb); replace HO118 := Aside0.mk (Kd.R_below (by (with_reducible repeat (first | apply Kd.R_alloc | apply Kd.R_drewN | apply Kd.R_drew)); exact (Kd.R_mono (Kd.R_far (p := ⟨gb128, 6, none⟩) (Kd.R_far (p := ⟨gb128, 5, none⟩) (Kd.R_far (p := ⟨gb128, 4, none⟩) (Kd.R_far (p := ⟨gb128, 3, none⟩) (Kd.R_far (p := ⟨gb128, 2, none⟩) (Kd.R_far (p := ⟨gb128, 1, none⟩) (Kd.R_far (p := ⟨gb128, 0, none⟩) (Kd.R_mono HO118.out (fun k_ hk => (⟨hk, hk.2⟩ : _ ∧ k_ ≠ gb128))) (fun _ hk => hk.2) (.string t120)) (fun _ hk => hk.2) (.int .i64 t121)) (fun _ hk => hk.2) (.int .i64 t122)) (fun _ hk => hk.2) (.int .i64 t123)) (fun _ hk => hk.2) (.string t124)) (fun _ hk => hk.2) (.string t125)) (fun _ hk => hk.2) (.string t126)) (fun _ h_ => h_.1))) hb); replace BK101 := Aside0.mk (blk_below (g := gb101) (o := .cells #[.string a1_0, .int .i64 a1_1, .int .i64 a1_2, .int .i64 a1_3, .string a1_4, .string a1_5, .string a1_6] 32 (0, 0)) (by (with_reducible repeat (first | refine blk_drewN ?_ _ | refine blk_drew ?_ | refine blk_alloc ?_ _)); refine blk_far ?_ NB101_128.out _; (with_reducible repeat (first | refine blk_drewN ?_ _ | refine blk_drew ?_ | refine blk_alloc ?_ _)); refine blk_far ?_ NB101_128.out _; (with_reducible repeat (first | refine blk_drewN ?_ _ | refine blk_drew ?_ | refine blk_alloc ?_ _)); refine blk_far ?_ NB101_128.out _; (with_reducible repeat (first | refine blk_drewN ?_ _ | refine blk_drew ?_ | refine blk_alloc ?_ _)); refine blk_far ?_ NB101_128.out _; (with_reducible repeat (first | refine blk_drewN ?_ _ | refine blk_drew ?_ | refine blk_alloc ?_ _)); refine blk_far ?_ NB101_128.out _; (with_reducible repeat (first | refine blk_drewN ?_ _ | refine blk_drew ?_ | refine blk_alloc ?_ _)); refine blk_far ?_ NB101_128.out _; (with_reducible repeat (first | refine blk_drewN ?_ _ | refine blk_drew ?_ | refine blk_alloc ?_ _)); refine blk_far ?_ NB101_128.out _; (with_reducible repeat (first | refine blk_drewN ?_ _ | refine blk_drew ?_ | refine blk_alloc ?_ _)); exact BK101.out) hb); replace BK128 := Aside0.mk (blk_below (g := gb128) (o := .cells #[.string t120, .int .i64 t121, .int .i64 t122, .int .i64 t123, .string t124, .string t125, .string t126] 32 (0, 0)) (by (with_reducible repeat (first | refine blk_drewN ?_ _ | refine blk_drew ?_ | refine blk_alloc ?_ _)); refine blk_put (cs := #[.string t120, .int .i64 t121, .int .i64 t122, .int .i64 t123, .string t124, .string t125, .string (⟨#[]⟩ : ByteArray)]) ?_ 6 _ rfl; (with_reducible repeat (first | refine blk_drewN ?_ _ | refine blk_drew ?_ | refine blk_alloc ?_ _)); refine blk_put (cs := #[.string t120, .int .i64 t121, .int .i64 t122, .int .i64 t123, .string t124, .string (⟨#[]⟩ : ByteArray), .string (⟨#[]⟩ : ByteArray)]) ?_ 5 _ rfl; (with_reducible repeat (first | refine blk_drewN ?_ _ | refine blk_drew ?_ | refine blk_alloc ?_ _)); refine blk_put (cs := #[.string t120, .int .i64 t121, .int .i64 t122, .int .i64 t123, .string (⟨#[]⟩ : ByteArray), .string (⟨#[]⟩ : ByteArray), .string (⟨#[]⟩ : ByteArray)]) ?_ 4 _ rfl; (with_reducible repeat (first | refine blk_drewN ?_ _ | refine blk_drew ?_ | refine blk_alloc ?_ _)); refine blk_put (cs := #[.string t120, .int .i64 t121, .int .i64 t122, .int .i64 0, .string (⟨#[]⟩ : ByteArray), .string (⟨#[]⟩ : ByteArray), .string (⟨#[]⟩ : ByteArray)]) ?_ 3 _ rfl; (with_reducible repeat (first | refine blk_drewN ?_ _ | refine blk_drew ?_ | refine blk_alloc ?_ _)); refine blk_put (cs := #[.string t120, .int .i64 t121, .int .i64 0, .int .i64 0, .string (⟨#[]⟩ : ByteArray), .string (⟨#[]⟩ : ByteArray), .string (⟨#[]⟩ : ByteArray)]) ?_ 2 _ rfl; (with_reducible repeat (first | refine blk_drewN ?_ _ | refine blk_drew ?_ | refine blk_alloc ?_ _)); refine blk_put (cs := #[.string t120, .int .i64 0, .int .i64 0, .int .i64 0, .string (⟨#[]⟩ : ByteArray), .string (⟨#[]⟩ : ByteArray), .string (⟨#[]⟩ : ByteArray)]) ?_ 1 _ rfl; (with_reducible repeat (first | refine blk_drewN ?_ _ | refine blk_drew ?_ | refine blk_alloc ?_ _)); refine blk_put (cs := #[.string (⟨#[]⟩ : ByteArray), .int .i64 0, .int .i64 0, .int .i64 0, .string (⟨#[]⟩ : ByteArray), .string (⟨#[]⟩ : ByteArray), .string (⟨#[]⟩ : ByteArray)]) ?_ 0 _ rfl; (with_reducible repeat (first | refine blk_drewN ?_ _ | refine blk_drew ?_ | refine blk_alloc ?_ _)); exact BK128.out) hb); replace HB := Aside0.mk (below_step xB hb); (try clear hb); (try clear hk)) | ((with_reducible refine gate_dst (N := 15) rfl ?_); (try (refine gate_guard (by rfl) ?_; dsimp only)); refine box_event ?hg (N := 15) ?hd (cs := #[.string (⟨#[]⟩ : ByteArray), .int .i64 0, .int .i64 0, .int .i64 0, .string (⟨#[]⟩ : ByteArray), .string (⟨#[]⟩ : ByteArray), .string (⟨#[]⟩ : ByteArray)]) (t := 32) ?hr ?_; (case hd => rfl); (case hg => rfl); (case hr => first | (go_simp; done) | (go_simp; rfl)); intro gb137 hg w42 hbox hb; have n0_ := Aside0.mk (Kd.R_below (Kd.R_elderB (by (with_reducible repeat (first | apply Kd.R_alloc | apply Kd.R_drewN | apply Kd.R_drew)); exact HO114.out) gb137 (Nat.le_of_eq hg.symm)) hb); have n1_ := Aside0.mk (Kd.R_below (Kd.R_elderB (by (with_reducible repeat (first | apply Kd.R_alloc | apply Kd.R_drewN | apply Kd.R_drew)); exact HO118.out) gb137 (Nat.le_of_eq hg.symm)) hb); have n2_ := Aside0.mk (blk_below (g := gb101) (o := .cells #[.string a1_0, .int .i64 a1_1, .int .i64 a1_2, .int .i64 a1_3, .string a1_4, .string a1_5, .string a1_6] 32 (0, 0)) xK hb); have n3_ := Aside0.mk (blk_below (g := gb128) (o := .cells #[.string t120, .int .i64 t121, .int .i64 t122, .int .i64 t123, .string t124, .string t125, .string t126] 32 (0, 0)) xK hb); have n4_ := Aside0.mk (below_step xB hb); have n5_ := Aside0.mk (hbox); have n6_ := Aside0.mk ((by rw [hg]; exact (below_size xB) : w.heap.size ≤ gb137)); have n7_ := Aside0.mk ((by rw [hg]; exact (below_size xB) : w.heap.size ≤ gb137)); have n8_ := Aside0.mk ((by rw [hg]; exact Nat.ne_of_lt (blk_lt (g := gb101) (o := .cells #[.string a1_0, .int .i64 a1_1, .int .i64 a1_2, .int .i64 a1_3, .string a1_4, .string a1_5, .string a1_6] 32 (0, 0)) xK) : gb101 ≠ gb137)); have n9_ := Aside0.mk ((by rw [hg]; exact Nat.ne_of_gt (blk_lt (g := gb101) (o := .cells #[.string a1_0, .int .i64 a1_1, .int .i64 a1_2, .int .i64 a1_3, .string a1_4, .string a1_5, .string a1_6] 32 (0, 0)) xK) : gb137 ≠ gb101)); have n10_ := Aside0.mk ((by rw [hg]; exact Nat.ne_of_lt (blk_lt (g := gb128) (o := .cells #[.string t120, .int .i64 t121, .int .i64 t122, .int .i64 t123, .string t124, .string t125, .string t126] 32 (0, 0)) xK) : gb128 ≠ gb137)); have n11_ := Aside0.mk ((by rw [hg]; exact Nat.ne_of_gt (blk_lt (g := gb128) (o := .cells #[.string t120, .int .i64 t121, .int .i64 t122, .int .i64 t123, .string t124, .string t125, .string t126] 32 (0, 0)) xK) : gb137 ≠ gb128)); clear HO114; clear HO118; clear BK101; clear BK128; clear HB; have HO114 := n0_; have HO118 := n1_; have BK101 := n2_; have BK128 := n3_; have HB := n4_; have BK137 := n5_; have GW137 := n6_; have GE137 := n7_; have NB101_137 := n8_; have NB137_101 := n9_; have NB128_137 := n10_; have NB137_128 := n11_; clear n0_ n1_ n2_ n3_ n4_ n5_ n6_ n7_ n8_ n9_ n10_ n11_; clear hb hbox hg; have hnb43 := NB137_101.out; have hnc43 := NB101_137.out; have hnb44 := NB137_128.out; have hnc44 := NB128_137.out; obtain ⟨hcz45_0, hcz45_1, hcz45_2, hcz45_3, hcz45_4, hcz45_5, hcz45_6⟩ := xC7 BK137.out; obtain ⟨hfz45_0, hfz45_1, hfz45_2, hfz45_3, hfz45_4, hfz45_5, hfz45_6⟩ := xF7 BK137.out; obtain ⟨Ao46, co46, eo46⟩ := Kd.R_slice HO114.out; subst eo46; obtain ⟨Ao47, co47, eo47⟩ := Kd.R_slice HO118.out; subst eo47) | (go_at_call 8; (with_reducible refine (armadaref15_Same.calls kj2 _ _ t112 _ _ t116 true _ ?side1 ?side2 ?side3 ?side4 A23.out).mono ?_); (case side1 => refine (Kd.R_reads' (e := 32) (base := w.heap.size) (ok := fun k_ => ((((True ∧ k_ ≠ gb101) ∧ some k_ ≠ (.slice Ao47 t116.length co47 : Value).ownBlock) ∧ k_ ≠ gb128) ∧ k_ ≠ gb137)) (n := t112.length) (c := co46) ?_).2.2; exact (by (with_reducible repeat (first | apply Kd.R_alloc | apply Kd.R_drewN | apply Kd.R_drew)); exact (Kd.R_mono (Kd.R_far (p := ⟨gb137, 6, none⟩) (Kd.R_far (p := ⟨gb137, 5, none⟩) (Kd.R_far (p := ⟨gb137, 4, none⟩) (Kd.R_far (p := ⟨gb137, 3, none⟩) (Kd.R_far (p := ⟨gb137, 2, none⟩) (Kd.R_far (p := ⟨gb137, 1, none⟩) (Kd.R_far (p := ⟨gb137, 0, none⟩) (Kd.R_mono HO114.out (fun k_ hk => (⟨hk, hk.2⟩ : _ ∧ k_ ≠ gb137))) (fun _ hk => hk.2) (.string t129)) (fun _ hk => hk.2) (.int .i64 t130)) (fun _ hk => hk.2) (.int .i64 t131)) (fun _ hk => hk.2) (.int .i64 t132)) (fun _ hk => hk.2) (.string t133)) (fun _ hk => hk.2) (.string t134)) (fun _ hk => hk.2) (.string t135)) (fun _ h_ => h_.1)))); (case side2 => exact (Kd.R_reads' HO114.out).2.1); (case side3 => refine (Kd.R_reads' (e := 32) (base := w.heap.size) (ok := fun k_ => ((((True ∧ some k_ ≠ (.slice Ao46 t112.length co46 : Value).ownBlock) ∧ k_ ≠ gb101) ∧ k_ ≠ gb128) ∧ k_ ≠ gb137)) (n := t116.length) (c := co47) ?_).2.2; exact (by (with_reducible repeat (first | apply Kd.R_alloc | apply Kd.R_drewN | apply Kd.R_drew)); exact (Kd.R_mono (Kd.R_far (p := ⟨gb137, 6, none⟩) (Kd.R_far (p := ⟨gb137, 5, none⟩) (Kd.R_far (p := ⟨gb137, 4, none⟩) (Kd.R_far (p := ⟨gb137, 3, none⟩) (Kd.R_far (p := ⟨gb137, 2, none⟩) (Kd.R_far (p := ⟨gb137, 1, none⟩) (Kd.R_far (p := ⟨gb137, 0, none⟩) (Kd.R_mono HO118.out (fun k_ hk => (⟨hk, hk.2⟩ : _ ∧ k_ ≠ gb137))) (fun _ hk => hk.2) (.string t129)) (fun _ hk => hk.2) (.int .i64 t130)) (fun _ hk => hk.2) (.int .i64 t131)) (fun _ hk => hk.2) (.int .i64 t132)) (fun _ hk => hk.2) (.string t133)) (fun _ hk => hk.2) (.string t134)) (fun _ hk => hk.2) (.string t135)) (fun _ h_ => h_.1)))); (case side4 => exact (Kd.R_reads' HO118.out).2.1); rintro e w' ⟨rfl, ⟨nd, rfl⟩⟩; obtain ⟨hcz48_0, hcz48_1, hcz48_2, hcz48_3, hcz48_4, hcz48_5, hcz48_6⟩ := xC7 BK128.out; obtain ⟨hfz48_0, hfz48_1, hfz48_2, hfz48_3, hfz48_4, hfz48_5, hfz48_6⟩ := xF7 BK128.out) | (go_at_call 5; (with_reducible refine (armadalaw15_live.calls  t139 _ ?side1 ?side2 A28.out).mono ?_); (case side1 => exact GW.below HGW.out xB); (case side2 => exact HTRU_.out); rintro e w49 ⟨rfl, hb⟩; replace HO114 := Aside0.mk (Kd.R_below (by (with_reducible repeat (first | apply Kd.R_alloc | apply Kd.R_drewN | apply Kd.R_drew)); exact (Kd.R_mono (Kd.R_far (p := ⟨gb137, 6, none⟩) (Kd.R_far (p := ⟨gb137, 5, none⟩) (Kd.R_far (p := ⟨gb137, 4, none⟩) (Kd.R_far (p := ⟨gb137, 3, none⟩) (Kd.R_far (p := ⟨gb137, 2, none⟩) (Kd.R_far (p := ⟨gb137, 1, none⟩) (Kd.R_far (p := ⟨gb137, 0, none⟩) (Kd.R_mono HO114.out (fun k_ hk => (⟨hk, hk.2⟩ : _ ∧ k_ ≠ gb137))) (fun _ hk => hk.2) (.string t129)) (fun _ hk => hk.2) (.int .i64 t130)) (fun _ hk => hk.2) (.int .i64 t131)) (fun _ hk => hk.2) (.int .i64 t132)) (fun _ hk => hk.2) (.string t133)) (fun _ hk => hk.2) (.string t134)) (fun _ hk => hk.2) (.string t135)) (fun _ h_ => h_.1))) hb); replace HO118 := Aside0.mk (Kd.R_below (by (with_reducible repeat (first | apply Kd.R_alloc | apply Kd.R_drewN | apply Kd.R_drew)); exact (Kd.R_mono (Kd.R_far (p := ⟨gb137, 6, none⟩) (Kd.R_far (p := ⟨gb137, 5, none⟩) (Kd.R_far (p := ⟨gb137, 4, none⟩) (Kd.R_far (p := ⟨gb137, 3, none⟩) (Kd.R_far (p := ⟨gb137, 2, none⟩) (Kd.R_far (p := ⟨gb137, 1, none⟩) (Kd.R_far (p := ⟨gb137, 0, none⟩) (Kd.R_mono HO118.out (fun k_ hk => (⟨hk, hk.2⟩ : _ ∧ k_ ≠ gb137))) (fun _ hk => hk.2) (.string t129)) (fun _ hk => hk.2) (.int .i64 t130)) (fun _ hk => hk.2) (.int .i64 t131)) (fun _ hk => hk.2) (.int .i64 t132)) (fun _ hk => hk.2) (.string t133)) (fun _ hk => hk.2) (.string t134)) (fun _ hk => hk.2) (.string t135)) (fun _ h_ => h_.1))) hb); replace BK101 := Aside0.mk (blk_below (g := gb101) (o := .cells #[.string a1_0, .int .i64 a1_1, .int .i64 a1_2, .int .i64 a1_3, .string a1_4, .string a1_5, .string a1_6] 32 (0, 0)) (by (with_reducible repeat (first | refine blk_drewN ?_ _ | refine blk_drew ?_ | refine blk_alloc ?_ _)); refine blk_far ?_ NB101_137.out _; (with_reducible repeat (first | refine blk_drewN ?_ _ | refine blk_drew ?_ | refine blk_alloc ?_ _)); refine blk_far ?_ NB101_137.out _; (with_reducible repeat (first | refine blk_drewN ?_ _ | refine blk_drew ?_ | refine blk_alloc ?_ _)); refine blk_far ?_ NB101_137.out _; (with_reducible repeat (first | refine blk_drewN ?_ _ | refine blk_drew ?_ | refine blk_alloc ?_ _)); refine blk_far ?_ NB101_137.out _; (with_reducible repeat (first | refine blk_drewN ?_ _ | refine blk_drew ?_ | refine blk_alloc ?_ _)); refine blk_far ?_ NB101_137.out _; (with_reducible repeat (first | refine blk_drewN ?_ _ | refine blk_drew ?_ | refine blk_alloc ?_ _)); refine blk_far ?_ NB101_137.out _; (with_reducible repeat (first | refine blk_drewN ?_ _ | refine blk_drew ?_ | refine blk_alloc ?_ _)); refine blk_far ?_ NB101_137.out _; (with_reducible repeat (first | refine blk_drewN ?_ _ | refine blk_drew ?_ | refine blk_alloc ?_ _)); exact BK101.out) hb); replace BK128 := Aside0.mk (blk_below (g := gb128) (o := .cells #[.string t120, .int .i64 t121, .int .i64 t122, .int .i64 t123, .string t124, .string t125, .string t126] 32 (0, 0)) (by (with_reducible repeat (first | refine blk_drewN ?_ _ | refine blk_drew ?_ | refine blk_alloc ?_ _)); refine blk_far ?_ NB128_137.out _; (with_reducible repeat (first | refine blk_drewN ?_ _ | refine blk_drew ?_ | refine blk_alloc ?_ _)); refine blk_far ?_ NB128_137.out _; (with_reducible repeat (first | refine blk_drewN ?_ _ | refine blk_drew ?_ | refine blk_alloc ?_ _)); refine blk_far ?_ NB128_137.out _; (with_reducible repeat (first | refine blk_drewN ?_ _ | refine blk_drew ?_ | refine blk_alloc ?_ _)); refine blk_far ?_ NB128_137.out _; (with_reducible repeat (first | refine blk_drewN ?_ _ | refine blk_drew ?_ | refine blk_alloc ?_ _)); refine blk_far ?_ NB128_137.out _; (with_reducible repeat (first | refine blk_drewN ?_ _ | refine blk_drew ?_ | refine blk_alloc ?_ _)); refine blk_far ?_ NB128_137.out _; (with_reducible repeat (first | refine blk_drewN ?_ _ | refine blk_drew ?_ | refine blk_alloc ?_ _)); refine blk_far ?_ NB128_137.out _; (with_reducible repeat (first | refine blk_drewN ?_ _ | refine blk_drew ?_ | refine blk_alloc ?_ _)); exact BK128.out) hb); replace BK137 := Aside0.mk (blk_below (g := gb137) (o := .cells #[.string t129, .int .i64 t130, .int .i64 t131, .int .i64 t132, .string t133, .string t134, .string t135] 32 (0, 0)) (by (with_reducible repeat (first | refine blk_drewN ?_ _ | refine blk_drew ?_ | refine blk_alloc ?_ _)); refine blk_put (cs := #[.string t129, .int .i64 t130, .int .i64 t131, .int .i64 t132, .string t133, .string t134, .string (⟨#[]⟩ : ByteArray)]) ?_ 6 _ rfl; (with_reducible repeat (first | refine blk_drewN ?_ _ | refine blk_drew ?_ | refine blk_alloc ?_ _)); refine blk_put (cs := #[.string t129, .int .i64 t130, .int .i64 t131, .int .i64 t132, .string t133, .string (⟨#[]⟩ : ByteArray), .string (⟨#[]⟩ : ByteArray)]) ?_ 5 _ rfl; (with_reducible repeat (first | refine blk_drewN ?_ _ | refine blk_drew ?_ | refine blk_alloc ?_ _)); refine blk_put (cs := #[.string t129, .int .i64 t130, .int .i64 t131, .int .i64 t132, .string (⟨#[]⟩ : ByteArray), .string (⟨#[]⟩ : ByteArray), .string (⟨#[]⟩ : ByteArray)]) ?_ 4 _ rfl; (with_reducible repeat (first | refine blk_drewN ?_ _ | refine blk_drew ?_ | refine blk_alloc ?_ _)); refine blk_put (cs := #[.string t129, .int .i64 t130, .int .i64 t131, .int .i64 0, .string (⟨#[]⟩ : ByteArray), .string (⟨#[]⟩ : ByteArray), .string (⟨#[]⟩ : ByteArray)]) ?_ 3 _ rfl; (with_reducible repeat (first | refine blk_drewN ?_ _ | refine blk_drew ?_ | refine blk_alloc ?_ _)); refine blk_put (cs := #[.string t129, .int .i64 t130, .int .i64 0, .int .i64 0, .string (⟨#[]⟩ : ByteArray), .string (⟨#[]⟩ : ByteArray), .string (⟨#[]⟩ : ByteArray)]) ?_ 2 _ rfl; (with_reducible repeat (first | refine blk_drewN ?_ _ | refine blk_drew ?_ | refine blk_alloc ?_ _)); refine blk_put (cs := #[.string t129, .int .i64 0, .int .i64 0, .int .i64 0, .string (⟨#[]⟩ : ByteArray), .string (⟨#[]⟩ : ByteArray), .string (⟨#[]⟩ : ByteArray)]) ?_ 1 _ rfl; (with_reducible repeat (first | refine blk_drewN ?_ _ | refine blk_drew ?_ | refine blk_alloc ?_ _)); refine blk_put (cs := #[.string (⟨#[]⟩ : ByteArray), .int .i64 0, .int .i64 0, .int .i64 0, .string (⟨#[]⟩ : ByteArray), .string (⟨#[]⟩ : ByteArray), .string (⟨#[]⟩ : ByteArray)]) ?_ 0 _ rfl; (with_reducible repeat (first | refine blk_drewN ?_ _ | refine blk_drew ?_ | refine blk_alloc ?_ _)); exact BK137.out) hb); replace HB := Aside0.mk (below_step xB hb); (try clear hb); (try clear hk)))
         go_ret; exact ⟨xW, xB⟩
        have c27b0 : (t127 == t136) = false := by simpa using c27
        (try (have c27b1 : decide (t127 = t136) = false := by simpa using c27))
        (try (have c27b2 : (t127 == t136) = false := by simpa using c27))
        (try (have c27b3 : ¬ (t127 = t136) := by simpa using c27))
        clear c27; exact absurd ((Option.some.inj H).trans HTRU_.out) (by decide)
       have c26b0 : (t120.toList == t129.toList && ((t121 == t130 && (t122 == t131 && (t123 == t132 && (t124.toList == t133.toList && (t125.toList == t134.toList))))) && (t126.toList == t135.toList))) = false := by simpa using c26
       (try (have c26b1 : decide (t120.toList = t129.toList && ((t121 == t130 && (t122 == t131 && (t123 == t132 && (t124.toList == t133.toList && (t125.toList == t134.toList))))) && (t126.toList == t135.toList))) = false := by simpa using c26))
       (try (have c26b2 : (t120.toList == t129.toList && ((t121 == t130 && (t122 == t131 && (t123 == t132 && (t124.toList == t133.toList && (t125.toList == t134.toList))))) && (t126.toList == t135.toList))) = false := by simpa using c26))
       (try (have c26b3 : ¬ (t120.toList = t129.toList && ((t121 == t130 && (t122 == t131 && (t123 == t132 && (t124.toList == t133.toList && (t125.toList == t134.toList))))) && (t126.toList == t135.toList))) := by simpa using c26))
       clear c26; exact absurd ((Option.some.inj H).trans HTRU_.out) (by decide)
      have c25b0 := beq_eq_false_iff_ne.mpr c25; have c25b1 := bne_iff_ne.mpr c25; exact absurd ((Option.some.inj H).trans HTRU_.out) (by decide)
     replace c24 := Bool.eq_false_iff.mpr c24; subst c24; rw [if_neg (show ¬ (false = true) by decide)] at H; exact absurd ((Option.some.inj H).trans HTRU_.out) (by decide)
    have c22b0 := beq_eq_false_iff_ne.mpr c22; have c22b1 := bne_iff_ne.mpr c22; exact absurd ((Option.some.inj H).trans HTRU_.out) (by decide)
   have c21b0 := beq_eq_false_iff_ne.mpr c21; have c21b1 := bne_iff_ne.mpr c21; exact absurd ((Option.some.inj H).trans HTRU_.out) (by decide)
end Go.Proofs.YtjdhdjmdmnedfaaGreatDoor.LTells
end

section
namespace Go.Proofs.YtjdhdjmdmnedfaaGreatDoor.LTells
open Go.RowKit Go.Proofs.YtjdhdjmdmnedfaaGreatDoor Go.Proofs.YtjdhdjmdmnedfaaGreatDoor.K0 Go.Proofs.YtjdhdjmdmnedfaaGreatDoor.R1 Go.Proofs.YtjdhdjmdmnedfaaGreatDoor.R2 Go.Proofs.YtjdhdjmdmnedfaaGreatDoor.R3 Go.Proofs.YtjdhdjmdmnedfaaGreatDoor.R4 Go.Proofs.YtjdhdjmdmnedfaaGreatDoor.R5 Go.Proofs.YtjdhdjmdmnedfaaGreatDoor.RS Go.Proofs.YtjdhdjmdmnedfaaGreatDoor.RA Go.Proofs.YtjdhdjmdmnedfaaGreatDoorW.PrintWords Go.Proofs.YtjdhdjmdmnedfaaGreatDoorW.PrintLast Go.Proofs.YtjdhdjmdmnedfaaGreatDoorW.PrintMore
attribute [local go_sem] max2_int min2_int max_two min_two max_three min_three max_four min_four
set_option linter.unusedVariables false
set_option linter.unusedSimpArgs false
end Go.Proofs.YtjdhdjmdmnedfaaGreatDoor.LTells
end

section
namespace Go.Proofs.YtjdhdjmdmnedfaaGreatDoor
open Go Go.RowKit Go.Proofs Go.Proofs.YtjdhdjmdmnedfaaGreatDoorW.PrintWords Go.Proofs.YtjdhdjmdmnedfaaGreatDoor.K0 Go.Proofs.YtjdhdjmdmnedfaaGreatDoor.R5 Go.Proofs.YtjdhdjmdmnedfaaGreatDoor.RS Go.Proofs.YtjdhdjmdmnedfaaGreatDoor.RA Go.Proofs.YtjdhdjmdmnedfaaGreatDoor.LTells
set_option linter.unusedVariables false
set_option linter.unusedSimpArgs false
theorem radd_f (l : List Tg) (t : Tg) (hl : l.length ≤ 4294967280) (hh : t.f2.size ≤ 1000000) : armadaref15_Add.f l t.f0 t.f1.f0 t.f1.f1 t.f1.f2 t.f1.f3 t.f1.f4 t.f2 = some (addT l t) := by
  have hw : armadaref15_wrong.f l t.f0 t.f1.f0 t.f1.f1 t.f1.f2 t.f1.f3 t.f1.f4 t.f2 = some (wrongT l t) := by
    unfold armadaref15_wrong.f
    rw [if_pos hh, tag_eta]
  unfold armadaref15_Add.f addT
  rw [hw]
  simp only [Option.bind_some, tag_eta, List.nil_append, List.length_nil, Nat.zero_add]
  by_cases hz : wrongT l t = 0
  · rw [if_pos hz, if_pos hz, if_pos (by omega), if_pos (by omega)]
  · rw [if_neg hz, if_neg hz]
theorem addT_len (l : List Tg) (t : Tg) : (addT l t).1.length ≤ l.length + 1 := by
  unfold addT
  split <;> simp
theorem ltells_j0 (l : List Tg) (t : Tg) (k : Nat) (hk : 400 < k) (c : Bool) (h : c = false → fewT l = true ∧ t.f2.size ≤ 200) : armadalaw15_LedgerTells.j0 (k + 1) l c t.f0 t.f1.f0 t.f1.f1 t.f1.f2 t.f1.f3 t.f1.f4 t.f2 = some true := by
  simp only [armadalaw15_LedgerTells.j0]
  cases c with
  | true => rfl
  | false =>
    obtain ⟨hf, ht⟩ := h rfl
    obtain ⟨h60, hh⟩ := few_len hf
    have hx : armadaref15_Text.f l = some (txtT l) := if_pos ⟨h60, hh⟩
    have hy : armadaref15_Latest.f l t.f0 = some (flatT (latT l t.f0)) := if_pos (by omega)
    have hal := addT_len l t
    rw [if_neg (by simp), text_few hf, hx, add_f l t (by omega) (by omega), radd_f l t (by omega) (by omega), latest_f l t.f0 (by omega) k (by omega), hy]
    simp only [Option.bind_some, if_true]
    rw [same_self (addT l t).1 (by omega) k (by omega)]
    simp only [Option.bind_some, beq_self_eq_true, Bool.and_self, if_true]
    rfl
theorem ledgerTells_pure (l : List Tg) (a : ByteArray) (b c d : Int) (e f g : ByteArray) (hl : l.length ≤ 9223372036854775807) : ∃ k, armadalaw15_LedgerTells.f k l a b c d e f g = some true := by
  refine ⟨l.length + 500 + 1, ?_⟩
  unfold armadalaw15_LedgerTells.f
  rw [few_f l hl _ (by omega)]
  simp only [Option.bind_some]
  cases hf : fewT l with
  | false => rw [if_neg (by simp)]; exact ltells_j0 l ⟨a, ⟨b, c, d, e, f⟩, g⟩ _ (by omega) true (fun e => by cases e)
  | true =>
    rw [if_pos rfl, few_f [⟨a, ⟨b, c, d, e, f⟩, g⟩] (by simp) _ (by simp)]
    simp only [Option.bind_some]
    refine ltells_j0 l ⟨a, ⟨b, c, d, e, f⟩, g⟩ _ (by omega) _ (fun h => ⟨hf, ?_⟩)
    have h2 : fewT [⟨a, ⟨b, c, d, e, f⟩, g⟩] = true := by simpa using h
    exact (few_len h2).2 _ List.mem_cons_self
end Go.Proofs.YtjdhdjmdmnedfaaGreatDoor
end

section
namespace Go.Proofs.YtjdhdjmdmnedfaaGreatDoor
open Go Go.ChangeShapes Go.WideShapes Go.ChangeAt Go.RowKit Go.Joins Go.Deep Go.Proofs.YtjdhdjmdmnedfaaGreatDoor.LTells
set_option linter.unusedVariables false
set_option maxRecDepth 100000 in
theorem ledgerTells_lifted (os : Os) (started : os.Started) (H : Type) (enc : TypeId × Value → H) :
    ReturnsInHanded {} Tryz.checked os 4 .any (fun w args => (Rows.ledgerTellsSpec.pre enc Tryz.prog Tryz.f4 Rows.ledgerTellsRow.domain false w args ∧ laidMetH Tryz.prog Rows.ledgerTellsRow.laid w) ∧ sizedMet enc Tryz.prog Tryz.f4 (OpenSpec.ofChange Rows.ledgerTellsSpec) false w args)
      (Rows.ledgerTellsSpec.post enc Tryz.prog Tryz.f4 false true false false) := by
  refine lifted_of (C := Tryz.checked) (tb := 4) laidOut rfl own started (by kernel_rfl) Tryz.func4 (by kernel_rfl) (by kernel_rfl) Tryz.underlying4 ?_
    (ChangeSpec.witness_shaped (enc := enc) (C := Tryz.checked) (os := os) (X := fun w _ => laidMetH Tryz.prog Rows.ledgerTellsRow.laid w) false (World.laidAll Tryz.prog os Rows.ledgerTellsRow.laid) #[.slice none 0 0, .agg #[.string ⟨#[]⟩, .int .i64 0, .int .i64 0, .int .i64 0, .string ⟨#[]⟩, .string ⟨#[]⟩, .string ⟨#[]⟩]] 8 (World.laidAll_os _ _ _)
      (World.shaped_of_ZipB (by kernel_rfl) (by kernel_rfl)) (by kernel_rfl) (by kernel_rfl) (by kernel_rfl)
      (by rw [MakeChecks.laidMetH_plain _ _ _ (by kernel_rfl)]; exact laidMet_laidAll _ (by kernel_rfl) (by kernel_rfl))) ?_
  · intro ds hd
    match ds, hd.trans (show Tryz.f4.params.size = 2 by kernel_rfl) with
    | [_, _], _ => rfl
  · intro W base args ds ps hval0 hA0 hz hsh hL
    have hval : ∀ (j : Nat) t v, Tryz.f4.params[j]? = some t → args[j]? = some v → Value.okWide Tryz.prog W .any base t v := hval0
    have hA : DataW.TrodAll enc Tryz.prog W 0 (fun _ => true) true Tryz.f4.params.toList args.toList ds ps := hA0
    rw [Tryz.params4] at hA hval
    obtain ⟨v0, v1, d0, d1, p0, p1, rfl, rfl, rfl, h0, h1⟩ := trodAll_two hA
    obtain ⟨A0, c0, x0, rfl, hc0, hr0⟩ := arg_tags (hval 0 23 v0 rfl rfl) h0
    obtain ⟨x1a, x1b, x1c, x1d, x1p, x1q, x1h, rfl⟩ := arg_tag (hval 1 32 v1 rfl rfl) h1
    obtain ⟨k, hk⟩ := ledgerTells_pure x0 x1a x1b x1c x1d x1p x1q x1h hr0.2.1
    exact armadalaw15_LedgerTells.calls k A0 c0 x0 x1a x1b x1c x1d x1p x1q x1h true W hr0 hc0 (gw_of hsh hL) rfl hk
theorem ledgerTells_holds : Rows.LedgerTellsSaid :=
  OpenClaim.holds_of_wide 4 Tryz.f4 rfl rfl rfl rfl rfl rfl rfl ⟨rfl, rfl, rfl, rfl, rfl⟩ rfl rfl rfl rfl rfl (by kernel_rfl) Tryz.func4 (by kernel_rfl)
    (of_decide_eq_true (by kernel_rfl)) (by unfold Func.isWrapper; first | (rw [if_pos (by decide +kernel)]; kernel_rfl) | (rw [if_neg (by decide +kernel)]; exact ⟨rfl, rfl⟩))
    (fun os started H enc _ => ledgerTells_lifted os started H enc)
theorem ledgerTells_card : Rows.LedgerTellsCardSaid :=
  Claim7.holds_tied_plain_at .later [] [.data, .data, .data, .data, .sentinel, .sentinel, .pinned] true (true, "9787d040dd11b893677cd18e3780c00b05160280badf643062b6180f6cdb35a5") true ledgerTells_holds (fun _ h => by cases h) (by kernel_rfl) (fun _ h => by cases h) ledgerTells_row_tie rfl ⟨rfl, rfl⟩ (by kernel_rfl) rfl
    (fun f fn hf hfn => by
      obtain rfl : f = 4 := Option.some.inj ((show Tryz.prog.funcNamed "armada/armadalaw15.LedgerTells" = some 4 by kernel_rfl).symm.trans hf) |>.symm
      obtain rfl : fn = Tryz.f4 := (Option.some.inj (Tryz.func4.symm.trans hfn)).symm
      exact ⟨by kernel_rfl, fun j t ht => by
        rw [Tryz.params4] at ht
        have hm : t ∈ [23, 32] := by simpa using Array.mem_of_getElem? ht
        have hall : ([23, 32].all fun u => !Tryz.prog.wantsStandIn u) = true := by kernel_rfl
        exact (show Tryz.prog.wantsStandIn t = false by simpa using List.all_eq_true.1 hall t hm)⟩)
    (by kernel_rfl)
#print axioms ledgerTells_card
end Go.Proofs.YtjdhdjmdmnedfaaGreatDoor
end
