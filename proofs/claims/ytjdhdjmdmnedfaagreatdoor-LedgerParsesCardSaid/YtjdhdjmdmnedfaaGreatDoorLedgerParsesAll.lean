/- The law armadalaw15.LedgerParses answers true whatever text it is handed, and what it was handed reads as it did; its tied card holds.
   Conditions: those of the row and the card alone: the listed variables of Go's library hold what the program's own text lays in them. -/
import Derived.Test.YtjdhdjmdmnedfaaGreatDoorZP4
import Derived.Test.YtjdhdjmdmnedfaaGreatDoorTie
import Derived.Test.YtjdhdjmdmnedfaaGreatDoorCards
import Derived.ProofKit
import Derived.OpenShut
import Derived.LaidMore
import Derived.Lay
import Derived.SevenTiedAt
import Derived.Stop.Joined
import Derived.Stop.LaidErr
import Derived.Carry
import Derived.Shelf.Vars
import Derived.Handed
import Derived.JoinedOf
import Derived.Test.YtjdhdjmdmnedfaaGreatDoorZP6
import Derived.Test.YtjdhdjmdmnedfaaGreatDoorZP9
import Derived.Test.YtjdhdjmdmnedfaaGreatDoorZP12
import Derived.Test.YtjdhdjmdmnedfaaGreatDoorZP15
import Derived.Test.YtjdhdjmdmnedfaaGreatDoorZP22
import Derived.Test.YtjdhdjmdmnedfaaGreatDoorZP30
import Derived.Test.YtjdhdjmdmnedfaaGreatDoorZP35
import Derived.Test.YtjdhdjmdmnedfaaGreatDoorZP37
import Derived.Test.YtjdhdjmdmnedfaaGreatDoorZP40
import Derived.Lib.SmallJoins
section
namespace Go.Proofs.YtjdhdjmdmnedfaaGreatDoor
open Go Go.ChangeShapes Go.WideShapes Go.ChangeAt Go.RowKit Go.Joins Go.Deep Go.Proofs.YtjdhdjmdmnedfaaGreatDoorW.PrintWords
set_option linter.unusedVariables false
theorem own : ownKnob Tryz.prog.godebug = none := by kernel_rfl
theorem laidOut : laidOutB Tryz.prog = true := by kernel_rfl
section
variable {H : Type} {enc : TypeId × Value → H} {P : Program}
theorem trodAll_carry (hl : laidOutB P = true) {W W' : World} (hb : Below W.heap.size W W') : ∀ {ts : List TypeId} {vs : List Value} {ds : List (DataW H)} {ps : List MemPlace},
    (ts.all fun t => P.readableRec t && decide (t < P.types.size)) = true → DataW.TrodAll enc P W 0 (fun _ => true) true ts vs ds ps → ∀ sp : Nat → Bool, (∀ p ∈ ps, sp p.block = true) → DataW.TrodAll enc P W' 0 sp true ts vs ds ps
  | [], [], [], _, _, h, _, _ => h
  | [], [], _ :: _, _, _, h, _, _ => h.elim
  | [], _ :: _, _, _, _, h, _, _ => h.elim
  | _ :: _, [], _, _, _, h, _, _ => h.elim
  | _ :: _, _ :: _, [], _, _, h, _, _ => h.elim
  | t :: ts, v :: vs, d :: ds, ps, hr, h, sp, hs => by
    have hlt := h.lt
    obtain ⟨p, q, h1, h2, rfl⟩ := h
    simp only [List.all_cons, Bool.and_eq_true, decide_eq_true_eq] at hr
    exact ⟨p, q, WideElems.Trod_stays hl hr.1.1 hr.1.2 h1 (fun x hx => hb.same (hlt x (by simp [hx]))) (fun x hx => hs x (by simp [hx])),
      trodAll_carry hl hb (by simpa using hr.2) h2 sp (fun x hx => hs x (by simp [hx])), rfl⟩
theorem post_true {f : Func} {s : ChangeSpec} {W W' : World} {args : Array Value} {ds : List (DataW H)} {before : List MemPlace} {tb : TypeId} (hl : laidOutB P = true) (hv : s.vars = [])
    (hW : DataW.Whole enc P f.params.toList s.vars false W args.toList ds [] before) (hr : (f.params.toList.all fun t => P.readableRec t && decide (t < P.types.size)) = true)
    (hres : f.resultTypes = #[tb]) (hbool : P.underlying tb = some .bool) (hfn : s.fn H (ds ++ []) = { results := [.lit (.bool true)], args := ds }) (hb : Below W.heap.size W W') :
    s.post enc P f false true false false W args (.bool true) W' := by
  have hlt := hW.lt
  obtain ⟨p, q, hA, hV, hpq, hz, hn⟩ := hW
  have hq : q = [] := by rw [hv] at hV; exact hV
  subst hq
  rw [List.append_nil] at hpq
  subst hpq
  refine ⟨ds, [], before, [], before, [], ⟨before, [], hA, hV, (List.append_nil _).symm, hz, hn⟩, ?_, ?_, ?_, hb.frame _, fun h => by cases h⟩
  · rw [hfn, hres]
    exact trodAll_mk1 (shut_bool hbool _)
  · rw [hfn]
    exact trodAll_carry hl hb hr hA _ (fun x hx => by simpa using hlt x hx)
  · rw [hfn, hv]
    exact rfl
theorem lifted_of {C : Checked} {os : Os} {f : FuncId} {fn : Func} {s : ChangeSpec} {conds : List PathCond} {laid : List (String × DataW Unit)} {tb : TypeId} (hl : laidOutB C.prog = true) (hv : s.vars = [])
    (own : ownKnob C.prog.godebug = none) (started : os.Started) (noInit : C.prog.inits.idxOf? f = none) (hfn : C.prog.funcs[f]? = some fn)
    (hr : (fn.params.toList.all fun t => C.prog.readableRec t && decide (t < C.prog.types.size)) = true)
    (hres : fn.resultTypes = #[tb]) (hbool : C.prog.underlying tb = some .bool)
    (hspec : ∀ ds : List (DataW H), ds.length = fn.params.size → s.fn H (ds ++ []) = { results := [.lit (.bool true)], args := ds })
    (witness : ∃ (w : World) (tape : Tape) (i : Input), w.os = os ∧ (w.forCall tape i).Shaped C.prog ∧ i.vars = [] ∧ Input.okWide C.prog (w.forCall tape i) .any w.heap.size f i ∧
      ((s.pre enc C.prog fn conds false (w.forCall tape i).memory i.args ∧ laidMetH C.prog laid (w.forCall tape i).memory) ∧ sizedMet enc C.prog fn (OpenSpec.ofChange s) false (w.forCall tape i).memory i.args) ∧
      ({} : Assume).holds C.prog (lone (Frame.enter C.prog f i.args .normal) [] (w.forCall tape i)))
    (law : ∀ (W : World) (base : Nat) (args : Array Value) (ds : List (DataW H)) (ps : List MemPlace),
      (∀ (j : Nat) t v, fn.params[j]? = some t → args[j]? = some v → Value.okWide C.prog W .any base t v) →
      DataW.TrodAll enc C.prog W 0 (fun _ => true) true fn.params.toList args.toList ds ps →
      (DataW.weightsEach C.prog fn.params.toList ds).all (· ≤ reachBytes) = true →
      W.ShapedOpen C.prog → laidMetH C.prog laid W →
      Calls C.prog f args W fun e W' => e = .returned (.bool true) ∧ Below W.heap.size W W') :
    ReturnsInHanded {} C os f .any (fun w args => (s.pre enc C.prog fn conds false w args ∧ laidMetH C.prog laid w) ∧ sizedMet enc C.prog fn (OpenSpec.ofChange s) false w args) (s.post enc C.prog fn false true false false) := by
  refine returnsInHanded_of_calls own started noInit witness ?_
  intro w tape i _ hsh _ hok hpre hholds
  obtain ⟨_, _, _, fn', hfn', _, _, _, _, hval⟩ := hok
  have e : fn' = fn := Option.some.inj (hfn'.symm.trans hfn)
  subst e
  obtain ⟨⟨⟨ds, gs, before, hw, hc⟩, hx⟩, hz⟩ := hpre
  have hgs : gs = [] := by
    obtain ⟨_, _, _, hV, _⟩ := hw
    rw [hv] at hV
    cases gs with
    | nil => rfl
    | cons _ _ => exact hV.elim
  subst hgs
  have hw' := DataW.Whole.of_heap (w' := w.forCall tape i) (by rfl) hw
  have hz' := hz.weights hw
  obtain ⟨p, q, hA, _⟩ := hw'
  have hlen : ∀ {ts : List TypeId} {vs : List Value} {ds : List (DataW H)} {ps : List MemPlace}, DataW.TrodAll enc C.prog (w.forCall tape i) 0 (fun _ => true) true ts vs ds ps → ds.length = ts.length := by
    intro ts
    induction ts with
    | nil => intro vs ds ps h; cases vs <;> cases ds <;> first | rfl | exact h.elim
    | cons t ts ih =>
      intro vs ds ps h
      cases vs <;> cases ds <;> first | exact h.elim | skip
      obtain ⟨_, _, _, h2, _⟩ := h
      simp [ih h2]
  have hz2 : (DataW.weightsEach C.prog fn'.params.toList ds).all (· ≤ reachBytes) = true := by
    have e1 : (OpenSpec.ofChange s).bare.plain.varTypes C.prog = [] := by
      show s.plain.varTypes C.prog = []
      unfold DataSpec.varTypes ChangeSpec.plain
      simp [hv]
    rw [e1, List.append_nil, List.append_nil] at hz'
    exact hz'
  refine (law (w.forCall tape i) w.heap.size i.args ds p hval hA hz2 hsh (hx.of_heap (by rfl))).mono fun e W' ⟨he, hb⟩ => ?_
  subst he
  refine ChangeSpec.post_blind (post_true hl hv (DataW.Whole.of_heap (w' := w.forCall tape i) (by rfl) hw) hr hres hbool (hspec ds ?_) hb)
  rw [hlen hA]; simp
end
theorem laid_mem {P : Program} {W : World} {x : String × DataW Unit} : ∀ {l : List (String × DataW Unit)}, laidMet P l W → x ∈ l → ∃ r, laidMet P (x :: r) W
  | [], _, h => by cases h
  | y :: l, hl, h => by
    rcases List.mem_cons.1 h with rfl | h'
    · exact ⟨l, hl⟩
    · exact laid_mem hl.tail h'
theorem iface_var {P : Program} {W : World} {n nm : String} {d : DataW Unit} {r : List (String × DataW Unit)} {g : Nat} {ti : TypeId} {ms : Array (String × TypeId)} (h : laidMet P ((n, .iface nm d) :: r) W)
    (hg : P.globalNamed n = some g) (ht : (P.globals[g]?).map (·.type) = some ti) (hi : P.underlying ti = some (.interface ms)) : ∃ tp p, W.var? P n = some #[.iface tp p] := by
  obtain ⟨ps, ⟨g0, t0, cs0, f0, p0, q0, hg0, ht0, hv0, hd0, _, _⟩, _, _⟩ := h
  obtain rfl := Option.some.inj (hg.symm.trans hg0)
  obtain rfl := Option.some.inj (ht.symm.trans ht0)
  obtain ⟨l0⟩ := cs0
  cases f0 with
  | zero => cases hd0
  | succ f0 =>
    unfold DataW.trod at hd0
    rw [hi] at hd0
    split at hd0 <;> first
      | (rename_i h1 h2; cases h1; done)
      | skip
    all_goals first
      | (cases hd0; done)
      | (rename_i u v h1 h2; simp only at h2; subst h2; exact ⟨u, v, hv0⟩)
      | skip
    all_goals (rename_i h1; cases h1)
section
variable {H : Type} {enc : TypeId × Value → H} {P : Program} {w : World} {base : Nat} {spare : Nat → Bool} {held : Bool}
end
/-- What the row lists gives the walk's world. -/
theorem gw_of {W : World} (h : W.ShapedOpen Tryz.prog) (hl : laidMetH Tryz.prog Rows.ledgerParsesRow.laid W) : GW W := by
  rw [MakeChecks.laidMetH_plain _ _ _ (by kernel_rfl)] at hl
  obtain ⟨_, h1⟩ := laid_mem (x := ("internal/strconv.uint64pow10", Rows.laid_internal_strconv_uint64pow10)) hl (by repeat (first | exact List.mem_cons_self .. | apply List.mem_cons_of_mem))
  obtain ⟨_, h2⟩ := laid_mem (x := ("strconv.ErrRange", Rows.laid_strconv_ErrRange)) hl (by repeat (first | exact List.mem_cons_self .. | apply List.mem_cons_of_mem))
  obtain ⟨_, h3⟩ := laid_mem (x := ("strconv.ErrSyntax", Rows.laid_strconv_ErrSyntax)) hl (by repeat (first | exact List.mem_cons_self .. | apply List.mem_cons_of_mem))
  exact {
    maxLen := cell_of_shapedOpen_int (P := Tryz.prog) (g := 0) (t := 3) (zero := #[.int .i64 0]) h (of_decide_eq_true (by kernel_rfl)) (by kernel_rfl) rfl (by kernel_rfl) (by kernel_rfl) Tryz.underlying3
    pow10 := Lib.tabIs_of_head (k := .u64) (zs := Lib.pow10Tab) (g := 5) (t := 156) (e := 130) (n := 20) (by kernel_rfl) (by kernel_rfl) (by kernel_rfl) (by kernel_rfl) (by kernel_rfl) (by kernel_rfl)
      (show laidMet _ ((_, Lib.tabData .u64 Lib.pow10Tab) :: _) _ from (show Rows.laid_internal_strconv_uint64pow10 = (Lib.tabData .u64 Lib.pow10Tab : DataW Unit) from by kernel_rfl) ▸ h1)
    errS := iface_var h3 (g := 1) (ti := 70) (by kernel_rfl) (by kernel_rfl) Tryz.underlying70
    errR := iface_var h2 (g := 2) (ti := 70) (by kernel_rfl) (by kernel_rfl) Tryz.underlying70 }
end Go.Proofs.YtjdhdjmdmnedfaaGreatDoor
end

section
namespace Go.Proofs.YtjdhdjmdmnedfaaGreatDoor.LParses
open Go.RowKit Go.Proofs.YtjdhdjmdmnedfaaGreatDoor Go.Proofs.YtjdhdjmdmnedfaaGreatDoor.K0 Go.Proofs.YtjdhdjmdmnedfaaGreatDoor.R1 Go.Proofs.YtjdhdjmdmnedfaaGreatDoor.R2 Go.Proofs.YtjdhdjmdmnedfaaGreatDoor.R3 Go.Proofs.YtjdhdjmdmnedfaaGreatDoor.R4 Go.Proofs.YtjdhdjmdmnedfaaGreatDoor.R5 Go.Proofs.YtjdhdjmdmnedfaaGreatDoor.RS Go.Proofs.YtjdhdjmdmnedfaaGreatDoor.RD Go.Proofs.YtjdhdjmdmnedfaaGreatDoor.RA Go.Proofs.YtjdhdjmdmnedfaaGreatDoor.RP Go.Proofs.YtjdhdjmdmnedfaaGreatDoor.RQ Go.Proofs.YtjdhdjmdmnedfaaGreatDoorW.PrintWords Go.Proofs.YtjdhdjmdmnedfaaGreatDoorW.PrintLast Go.Proofs.YtjdhdjmdmnedfaaGreatDoorW.PrintMore
attribute [local go_sem] max2_int min2_int max_two min_two max_three min_three max_four min_four
set_option linter.unusedVariables false
set_option linter.unusedSimpArgs false
end Go.Proofs.YtjdhdjmdmnedfaaGreatDoor.LParses
end

section
namespace Go.Proofs.YtjdhdjmdmnedfaaGreatDoor.LParses
open Go.RowKit Go.Proofs.YtjdhdjmdmnedfaaGreatDoor Go.Proofs.YtjdhdjmdmnedfaaGreatDoor.K0 Go.Proofs.YtjdhdjmdmnedfaaGreatDoor.R1 Go.Proofs.YtjdhdjmdmnedfaaGreatDoor.R2 Go.Proofs.YtjdhdjmdmnedfaaGreatDoor.R3 Go.Proofs.YtjdhdjmdmnedfaaGreatDoor.R4 Go.Proofs.YtjdhdjmdmnedfaaGreatDoor.R5 Go.Proofs.YtjdhdjmdmnedfaaGreatDoor.RS Go.Proofs.YtjdhdjmdmnedfaaGreatDoor.RD Go.Proofs.YtjdhdjmdmnedfaaGreatDoor.RA Go.Proofs.YtjdhdjmdmnedfaaGreatDoor.RP Go.Proofs.YtjdhdjmdmnedfaaGreatDoor.RQ Go.Proofs.YtjdhdjmdmnedfaaGreatDoorW.PrintWords Go.Proofs.YtjdhdjmdmnedfaaGreatDoorW.PrintLast Go.Proofs.YtjdhdjmdmnedfaaGreatDoorW.PrintMore
attribute [local go_sem] max2_int min2_int max_two min_two max_three min_three max_four min_four
set_option linter.unusedVariables false
set_option linter.unusedSimpArgs false
def armadalaw15_LedgerParses.f (k : Nat) (a0 : ByteArray) : Option (Bool) := if (a0.size : Int) > 4000 then ((armadalaw15_live.f).bind fun t101 => (some t101)) else ((ledger_Parse.f k a0).bind fun bt102 => ((armadaref15_Parse.f k a0).bind fun bt107 => ((armadaref15_Same.f k bt102.1 bt107.1).bind fun t112 => (if t112 = true then (if bt102.2.1 = bt107.2.1 then (if bt102.2.2 = bt107.2.2 then ((armadalaw15_live.f).bind fun t113 => (some t113)) else (some false)) else (some false)) else (some false)))))
set_option maxHeartbeats 8000000 in
set_option maxRecDepth 100000 in
theorem armadalaw15_LedgerParses.calls (k : Nat) (a0 : ByteArray) (r : Bool) (w : World) (hG : GW w) (hT : r = true) (h : armadalaw15_LedgerParses.f k a0 = some r) :
  Calls Tryz.prog 3 #[.string a0] w fun e w' => e = .returned (.bool r) ∧ Below w.heap.size w w' := by
 have HGW := Aside0.mk hG; clear hG; have HTRU_ := Aside0.mk hT; clear hT; have HB := Aside0.mk (Below.refl w.heap.size w); have H : (if (a0.size : Int) > 4000 then ((armadalaw15_live.f).bind fun t101 => (some t101)) else ((ledger_Parse.f k a0).bind fun bt102 => ((armadaref15_Parse.f k a0).bind fun bt107 => ((armadaref15_Same.f k bt102.1 bt107.1).bind fun t112 => (if t112 = true then (if bt102.2.1 = bt107.2.1 then (if bt102.2.2 = bt107.2.2 then ((armadalaw15_live.f).bind fun t113 => (some t113)) else (some false)) else (some false)) else (some false)))))) = some r := h; clear h; replace H := xJ H; rcases H with ⟨c2, H⟩ | ⟨c2, H⟩
 ·
  have c2b0 := decide_eq_true c2; have c2b1 : decide (4000 < a0.size) = true := decide_eq_true (by omega); clear c2; replace H := xb H; obtain ⟨t101, A3, H⟩ := H; obtain rfl := Option.some.inj H; go_enter Tryz.func3, Tryz.ntmps3; go_wp2_with (first | ((with_reducible refine gate_callee (f := 5) rfl ?_); refine goesL_ (some 12) rfl rfl Tryz.func5 (by kernel_rfl) rfl #[] rfl xS ?_; (with_reducible refine (armadalaw15_live.calls  t101 _ ?side1 ?side2 A3.out).mono ?_); (case side1 => exact GW.below HGW.out xB); (case side2 => exact HTRU_.out); rintro e w4 ⟨rfl, hb⟩; refine ⟨_, rfl, ?_⟩; replace HB := Aside0.mk (below_step xB hb); (try clear hb))); go_ret; exact ⟨xW, xB⟩
 have c2b0 := decide_eq_false c2; have c2b1 : decide (4000 < a0.size) = false := decide_eq_false (by omega); clear c2; replace H := Option.bind_eq_some_iff.mp H; obtain ⟨⟨t102, t103, t104⟩, A50, H⟩ := H; replace H : ((armadaref15_Parse.f k a0).bind fun bt107 => ((armadaref15_Same.f k t102 bt107.1).bind fun t112 => (if t112 = true then (if t103 = bt107.2.1 then (if t104 = bt107.2.2 then ((armadalaw15_live.f).bind fun t113 => (some t113)) else (some false)) else (some false)) else (some false)))) = some r := H; have A5 := Aside0.mk A50; clear A50; replace H := Option.bind_eq_some_iff.mp H; obtain ⟨⟨t107, t108, t109⟩, A60, H⟩ := H; replace H : ((armadaref15_Same.f k t102 t107).bind fun t112 => (if t112 = true then (if t103 = t108 then (if t104 = t109 then ((armadalaw15_live.f).bind fun t113 => (some t113)) else (some false)) else (some false)) else (some false))) = some r := H; have A6 := Aside0.mk A60; clear A60; replace H := xb H; obtain ⟨t112, A7, H⟩ := H
 by_cases c8 : t112 = true
 ·
  subst c8; rw [if_pos rfl] at H; replace H := xJ H; rcases H with ⟨c9, H⟩ | ⟨c9, H⟩
  ·
   have c9b0 := beq_iff_eq.mpr c9; have c9b1 := bne_eq_false_iff_eq.mpr c9; clear c9; replace H := xJ H; rcases H with ⟨c10, H⟩ | ⟨c10, H⟩
   ·
    have c10b0 := beq_iff_eq.mpr c10; have c10b1 := bne_eq_false_iff_eq.mpr c10; clear c10; replace H := xb H; obtain ⟨t113, A11, H⟩ := H; obtain rfl := Option.some.inj H; go_enter Tryz.func3, Tryz.ntmps3; go_wp2_with (first | ((with_reducible refine gate_callee (f := 6) rfl ?_); refine goesL_ (some 15) rfl rfl Tryz.func6 (by kernel_rfl) rfl #[.string a0] rfl xS ?_; (with_reducible refine (ledger_Parse.calls k a0 t102 t103 t104 _ ?side1 A5.out).mono ?_); (case side1 => exact GW.below HGW.out xB); rintro e w12 ⟨v105, rfl, ho0, hb⟩; refine ⟨_, rfl, ?_⟩; have HO106 := Aside0.mk (Kd.R_lower ho0 (below_size xB)); replace HB := Aside0.mk (below_step xB hb); (try clear hb); (try clear ho0)) | ((with_reducible refine gate_callee (f := 7) rfl ?_); refine goesL_ (some 21) rfl rfl Tryz.func7 (by kernel_rfl) rfl #[.string a0] rfl xS ?_; (with_reducible refine (armadaref15_Parse.calls k a0 t107 t108 t109 _ A6.out).mono ?_); rintro e w13 ⟨v110, rfl, ho0, hb⟩; refine ⟨_, rfl, ?_⟩; have HO111 := Aside0.mk (Kd.R_lower (Kd.R_new' ho0 (Kd.R_lt (by (with_reducible repeat (first | apply Kd.R_alloc | apply Kd.R_drewN | apply Kd.R_drew)); exact HO106.out))) (below_size xB)); replace HO106 := Aside0.mk (Kd.R_elder' (by (with_reducible repeat (first | apply Kd.R_alloc | apply Kd.R_drewN | apply Kd.R_drew)); exact HO106.out) (Kd.R_base ho0) hb); replace HB := Aside0.mk (below_step xB hb); (try clear hb); (try clear ho0); obtain ⟨Ao14, co14, eo14⟩ := Kd.R_slice HO106.out; subst eo14; obtain ⟨Ao15, co15, eo15⟩ := Kd.R_slice HO111.out; subst eo15) | ((with_reducible refine gate_callee (f := 8) rfl ?_); refine goesL_ (some 27) rfl rfl Tryz.func8 (by kernel_rfl) rfl #[.slice Ao14 t102.length co14, .slice Ao15 t107.length co15] rfl xS ?_; (with_reducible refine (armadaref15_Same.calls k _ _ t102 _ _ t107 true _ ?side1 ?side2 ?side3 ?side4 A7.out).mono ?_); (case side1 => repeat (first | exact (Kd.R_reads' HO106.out).2.2 | (with_reducible refine Kd.C_alloc ?_ _) | (with_reducible refine Kd.C_drewN ?_ _) | (with_reducible refine Kd.C_drew ?_))); (case side2 => exact (Kd.R_reads' HO106.out).2.1); (case side3 => repeat (first | exact (Kd.R_reads' HO111.out).2.2 | (with_reducible refine Kd.C_alloc ?_ _) | (with_reducible refine Kd.C_drewN ?_ _) | (with_reducible refine Kd.C_drew ?_))); (case side4 => exact (Kd.R_reads' HO111.out).2.1); rintro e w' ⟨rfl, ⟨nd, rfl⟩⟩; refine ⟨_, rfl, ?_⟩) | (go_at_call 5; (with_reducible refine (armadalaw15_live.calls  t113 _ ?side1 ?side2 A11.out).mono ?_); (case side1 => exact GW.below HGW.out xB); (case side2 => exact HTRU_.out); rintro e w16 ⟨rfl, hb⟩; replace HO106 := Aside0.mk (Kd.R_below (by (with_reducible repeat (first | apply Kd.R_alloc | apply Kd.R_drewN | apply Kd.R_drew)); exact HO106.out) hb); replace HO111 := Aside0.mk (Kd.R_below (by (with_reducible repeat (first | apply Kd.R_alloc | apply Kd.R_drewN | apply Kd.R_drew)); exact HO111.out) hb); replace HB := Aside0.mk (below_step xB hb); (try clear hb))); go_ret; exact ⟨xW, xB⟩
   have c10b0 := beq_eq_false_iff_ne.mpr c10; have c10b1 := bne_iff_ne.mpr c10; exact absurd ((Option.some.inj H).trans HTRU_.out) (by decide)
  have c9b0 := beq_eq_false_iff_ne.mpr c9; have c9b1 := bne_iff_ne.mpr c9; exact absurd ((Option.some.inj H).trans HTRU_.out) (by decide)
 replace c8 := Bool.eq_false_iff.mpr c8; subst c8; rw [if_neg (show ¬ (false = true) by decide)] at H; exact absurd ((Option.some.inj H).trans HTRU_.out) (by decide)
end Go.Proofs.YtjdhdjmdmnedfaaGreatDoor.LParses
end

section
namespace Go.Proofs.YtjdhdjmdmnedfaaGreatDoor.LParses
open Go.RowKit Go.Proofs.YtjdhdjmdmnedfaaGreatDoor Go.Proofs.YtjdhdjmdmnedfaaGreatDoor.K0 Go.Proofs.YtjdhdjmdmnedfaaGreatDoor.R1 Go.Proofs.YtjdhdjmdmnedfaaGreatDoor.R2 Go.Proofs.YtjdhdjmdmnedfaaGreatDoor.R3 Go.Proofs.YtjdhdjmdmnedfaaGreatDoor.R4 Go.Proofs.YtjdhdjmdmnedfaaGreatDoor.R5 Go.Proofs.YtjdhdjmdmnedfaaGreatDoor.RS Go.Proofs.YtjdhdjmdmnedfaaGreatDoor.RD Go.Proofs.YtjdhdjmdmnedfaaGreatDoor.RA Go.Proofs.YtjdhdjmdmnedfaaGreatDoor.RP Go.Proofs.YtjdhdjmdmnedfaaGreatDoor.RQ Go.Proofs.YtjdhdjmdmnedfaaGreatDoorW.PrintWords Go.Proofs.YtjdhdjmdmnedfaaGreatDoorW.PrintLast Go.Proofs.YtjdhdjmdmnedfaaGreatDoorW.PrintMore
attribute [local go_sem] max2_int min2_int max_two min_two max_three min_three max_four min_four
set_option linter.unusedVariables false
set_option linter.unusedSimpArgs false
end Go.Proofs.YtjdhdjmdmnedfaaGreatDoor.LParses
end

section
namespace Go.Proofs.YtjdhdjmdmnedfaaGreatDoor
open Go Go.RowKit Go.Proofs Go.Proofs.YtjdhdjmdmnedfaaGreatDoorW.PrintWords Go.Proofs.YtjdhdjmdmnedfaaGreatDoor.K0 Go.Proofs.YtjdhdjmdmnedfaaGreatDoor.RD Go.Proofs.YtjdhdjmdmnedfaaGreatDoor.R5 Go.Proofs.YtjdhdjmdmnedfaaGreatDoor.RS Go.Proofs.YtjdhdjmdmnedfaaGreatDoor.RA Go.Proofs.YtjdhdjmdmnedfaaGreatDoor.RP Go.Proofs.YtjdhdjmdmnedfaaGreatDoor.RQ Go.Proofs.YtjdhdjmdmnedfaaGreatDoor.LParses
set_option linter.unusedVariables false
set_option linter.unusedSimpArgs false
theorem radd_f (l : List Tg) (t : Tg) (hl : l.length ≤ 4294967280) (hh : t.f2.size ≤ 1000000) : armadaref15_Add.f l t.f0 t.f1.f0 t.f1.f1 t.f1.f2 t.f1.f3 t.f1.f4 t.f2 = some (addT l t) := by
  have hw : armadaref15_wrong.f l t.f0 t.f1.f0 t.f1.f1 t.f1.f2 t.f1.f3 t.f1.f4 t.f2 = some (wrongT l t) := by
    unfold armadaref15_wrong.f
    rw [if_pos hh, tag_eta]
  unfold armadaref15_Add.f addT
  rw [hw]
  simp only [Option.bind_some, tag_eta, List.nil_append, List.length_nil, Nat.zero_add]
  by_cases hz : wrongT l t = 0
  · rw [if_pos hz, if_pos hz, if_pos (by omega), if_pos (by omega)]
  · rw [if_neg hz, if_neg hz]
theorem rparse_l0 (ls : List ByteArray) (B : Nat) (hB : B ≤ 1000000) (hl : ls.length ≤ 4294967280) (hx : ∀ x ∈ ls, x.size ≤ B) : ∀ (d n k : Nat) (acc : List Tg), ls.length - n = d → n ≤ ls.length → acc.length = n → 2 * d + B + 10 < k →
    armadaref15_Parse.l0 k acc ls (n : Int) = some (parseFrom acc ((ls.drop n).map fun x => x.data.toList)) := by
  intro d
  induction d with
  | zero =>
    intro n k acc hd hn ha hk
    obtain ⟨k, rfl⟩ : ∃ m, k = m + 1 := ⟨k - 1, by omega⟩
    simp only [armadaref15_Parse.l0]
    rw [if_neg (by omega), List.drop_eq_nil_of_le (by omega)]; rfl
  | succ d ih =>
    intro n k acc hd hn ha hk
    obtain ⟨k, rfl⟩ : ∃ m, k = m + 2 := ⟨k - 2, by omega⟩
    obtain ⟨x, h1, h2, h3⟩ := rd_at (l := ls) (n := n) (by omega)
    have hxs := hx x (List.mem_of_getElem? h3)
    have hj : ∀ (w : List ByteArray) (a b c : Int) (u v : ByteArray), armadaref15_Parse.j1 (k + 1) acc ls (n : Int) w true a b c u v = some (([] : List Tg), (n : Int), 10) := fun w a b c u v => by
      simp only [armadaref15_Parse.j1]; rfl
    simp only [armadaref15_Parse.l0]
    rw [if_pos (by omega), if_pos (by omega), h1, h2, List.map_cons, show (32 : Int) = ((32 : UInt8).toNat : Int) from rfl, ref_split 32 x (by omega) (k + 1) (by omega)]
    simp only [Option.bind_some]
    unfold splitBy parseFrom
    rw [List.length_map]
    by_cases h3 : (splitC 32 x.data.toList).length = 3
    · obtain ⟨p, v, h, hw⟩ := three h3
      have hhs : h.length ≤ x.size := by
        have := (splitC_parts (c := 32) (l := x.data.toList) (p := h) (by rw [hw]; simp)).2
        rw [Lib.size_eq]; exact this
      have hrt : readT x.data.toList = if p = [] then none else if h = [] then none else (parseV v).map fun r => (⟨ba p, ⟨r.1, r.2.1, r.2.2.1, ba r.2.2.2.1, ba r.2.2.2.2⟩, ba h⟩ : Tg) := by
        unfold readT; rw [hw]
      rw [hrt, hw]
      simp only [List.map_cons, List.map_nil]
      obtain ⟨r0, r1, r2⟩ := rd_three (ba p) (ba v) (ba h)
      rw [if_pos (show (([p, v, h].length : Nat) : Int) = 3 from rfl), if_pos (by simp), r1]
      unfold armadaref07_Parse.f
      simp only [Option.bind_some]
      rw [show (ba v).data.toList = v from rfl]
      cases hv : parseV v with
      | none =>
        simp only [verR]
        refine Eq.trans (if_neg (show ¬ (false = true) by decide)) ?_
        rw [hj]
        have : (if p = [] then (none : Option Tg) else if h = [] then none else Option.map (fun r => ⟨ba p, ⟨r.1, r.2.1, r.2.2.1, ba r.2.2.2.1, ba r.2.2.2.2⟩, ba h⟩) (none : Option (Int × Int × Int × List UInt8 × List UInt8))) = none := by
          split
          · rfl
          · split <;> rfl
        rw [this, ha]
      | some r =>
        obtain ⟨a, b, c, u, w⟩ := r
        simp only [verR]
        rw [if_pos (by trivial), if_pos (by simp), r0]
        by_cases hp : p = []
        · subst hp
          rw [if_pos ((toList_nil _).2 rfl), hj, if_pos rfl, ha]
        · rw [if_neg (fun e => hp ((toList_nil _).1 e)), if_pos (by simp), r2, if_neg hp]
          by_cases hh : h = []
          · subst hh
            rw [show ((ba ([] : List UInt8)).toList == ([] : List UInt8)) = true from by rw [(toList_nil (ba [])).2 rfl]; rfl, hj, if_pos rfl, ha]
          · rw [show ((ba h).toList == ([] : List UInt8)) = false from beq_eq_false_iff_ne.mpr (fun e => hh ((toList_nil _).1 e)), if_neg hh]
            simp only [armadaref15_Parse.j1, Option.map_some]
            rw [if_neg (by simp), if_pos (by simp), if_pos (by simp), r0, r2]
            have hadd := radd_f acc ⟨ba p, ⟨a, b, c, ba u, ba w⟩, ba h⟩ (by omega) (by rw [ba_size]; omega)
            simp only at hadd
            rw [hadd]
            simp only [Option.bind_some]
            unfold addT
            by_cases hz : wrongT acc ⟨ba p, ⟨a, b, c, ba u, ba w⟩, ba h⟩ = 0
            · rw [if_pos hz, if_pos hz, if_pos rfl, wrap_succ (by omega), ih (n + 1) k _ (by omega) (by omega) (by rw [List.length_append]; simp; omega) (by omega)]
            · rw [if_neg hz, if_neg hz, if_neg hz, ha]
    · rw [if_neg (by omega)]
      have : readT x.data.toList = none := by
        unfold readT
        split
        · rename_i e; rw [e] at h3; exact absurd rfl h3
        · rfl
      rw [this, ha]
theorem rparse_f (s : ByteArray) (hs : s.size ≤ 1000000) (k : Nat) (hk : 4 * s.size + 100 < k) : armadaref15_Parse.f k s = some (parseT s.data.toList) := by
  have hl := linesOf_len s.data.toList
  rw [← Lib.size_eq] at hl
  unfold armadaref15_Parse.f parseT
  rw [rsplit_f s (by omega) k (by omega)]
  simp only [Option.bind_some]
  have := rparse_l0 ((linesOf s.data.toList).map ba) s.size hs (by rw [List.length_map]; omega) (fun x hx => by
    obtain ⟨y, hy, rfl⟩ := List.mem_map.1 hx
    rw [ba_size]
    exact hl.2 y hy) _ 0 k [] rfl (by omega) rfl (by rw [List.length_map]; omega)
  rw [List.drop_zero, map_ba] at this
  exact this
theorem parseFrom_len : ∀ (l : List (List UInt8)) (acc : List Tg), (parseFrom acc l).1.length ≤ acc.length + l.length
  | [], acc => by unfold parseFrom; simp
  | x :: l, acc => by
    unfold parseFrom
    split
    · simp
    · rename_i t _
      split
      · have := parseFrom_len l (acc ++ [t])
        refine Nat.le_trans this ?_
        rw [List.length_append]; simp; omega
      · simp
theorem ledgerParses_pure (s : ByteArray) : ∃ k, armadalaw15_LedgerParses.f k s = some true := by
  refine ⟨4 * s.size + 5000, ?_⟩
  unfold armadalaw15_LedgerParses.f
  by_cases h : (s.size : Int) > 4000
  · rw [if_pos h]; rfl
  · rw [if_neg h, parse_f s (by omega) _ (by omega), rparse_f s (by omega) _ (by omega)]
    have hl := linesOf_len s.data.toList
    rw [← Lib.size_eq] at hl
    have hp := parseFrom_len (linesOf s.data.toList) []
    simp only [Option.bind_some]
    unfold parseT
    rw [same_self _ (by simp at hp; omega) _ (by simp at hp; omega)]
    simp only [Option.bind_some, if_true]
    rfl
end Go.Proofs.YtjdhdjmdmnedfaaGreatDoor
end

section
namespace Go.Proofs.YtjdhdjmdmnedfaaGreatDoor
open Go Go.ChangeShapes Go.WideShapes Go.ChangeAt Go.RowKit Go.Joins Go.Deep Go.Proofs.YtjdhdjmdmnedfaaGreatDoor.LParses
set_option linter.unusedVariables false
set_option maxRecDepth 100000 in
theorem ledgerParses_lifted (os : Os) (started : os.Started) (H : Type) (enc : TypeId × Value → H) :
    ReturnsInHanded {} Tryz.checked os 3 .any (fun w args => (Rows.ledgerParsesSpec.pre enc Tryz.prog Tryz.f3 Rows.ledgerParsesRow.domain false w args ∧ laidMetH Tryz.prog Rows.ledgerParsesRow.laid w) ∧ sizedMet enc Tryz.prog Tryz.f3 (OpenSpec.ofChange Rows.ledgerParsesSpec) false w args)
      (Rows.ledgerParsesSpec.post enc Tryz.prog Tryz.f3 false true false false) := by
  refine lifted_of (C := Tryz.checked) (tb := 4) laidOut rfl own started (by kernel_rfl) Tryz.func3 (by kernel_rfl) (by kernel_rfl) Tryz.underlying4 ?_
    (ChangeSpec.witness_shaped (enc := enc) (C := Tryz.checked) (os := os) (X := fun w _ => laidMetH Tryz.prog Rows.ledgerParsesRow.laid w) false (World.laidAll Tryz.prog os Rows.ledgerParsesRow.laid) #[.string ⟨#[]⟩] 8 (World.laidAll_os _ _ _)
      (World.shaped_of_ZipB (by kernel_rfl) (by kernel_rfl)) (by kernel_rfl) (by kernel_rfl) (by kernel_rfl)
      (by rw [MakeChecks.laidMetH_plain _ _ _ (by kernel_rfl)]; exact laidMet_laidAll _ (by kernel_rfl) (by kernel_rfl))) ?_
  · intro ds hd
    match ds, hd.trans (show Tryz.f3.params.size = 1 by kernel_rfl) with
    | [_], _ => rfl
  · intro W base args ds ps hval0 hA0 hz hsh hL
    have hval : ∀ (j : Nat) t v, Tryz.f3.params[j]? = some t → args[j]? = some v → Value.okWide Tryz.prog W .any base t v := hval0
    have hA : DataW.TrodAll enc Tryz.prog W 0 (fun _ => true) true Tryz.f3.params.toList args.toList ds ps := hA0
    rw [Tryz.params3] at hA hval
    obtain ⟨v0, d0, rfl, rfl, h0⟩ := trodAll_one hA
    obtain ⟨x0, rfl, rfl, rfl, _⟩ := ChangeMaps.open_string Tryz.underlying9 (hval 0 9 v0 rfl rfl) h0
    obtain ⟨k, hk⟩ := ledgerParses_pure x0
    exact armadalaw15_LedgerParses.calls k x0 true W  (gw_of hsh hL) rfl hk
theorem ledgerParses_holds : Rows.LedgerParsesSaid :=
  OpenClaim.holds_of_wide 3 Tryz.f3 rfl rfl rfl rfl rfl rfl rfl ⟨rfl, rfl, rfl, rfl, rfl⟩ rfl rfl rfl rfl rfl (by kernel_rfl) Tryz.func3 (by kernel_rfl)
    (of_decide_eq_true (by kernel_rfl)) (by unfold Func.isWrapper; first | (rw [if_pos (by decide +kernel)]; kernel_rfl) | (rw [if_neg (by decide +kernel)]; exact ⟨rfl, rfl⟩))
    (fun os started H enc _ => ledgerParses_lifted os started H enc)
theorem ledgerParses_card : Rows.LedgerParsesCardSaid :=
  Claim7.holds_tied_plain_at .later [] [.data, .data, .data, .data, .sentinel, .sentinel, .pinned] true (true, "9787d040dd11b893677cd18e3780c00b05160280badf643062b6180f6cdb35a5") true ledgerParses_holds (fun _ h => by cases h) (by kernel_rfl) (fun _ h => by cases h) ledgerParses_row_tie rfl ⟨rfl, rfl⟩ (by kernel_rfl) rfl
    (fun f fn hf hfn => by
      obtain rfl : f = 3 := Option.some.inj ((show Tryz.prog.funcNamed "armada/armadalaw15.LedgerParses" = some 3 by kernel_rfl).symm.trans hf) |>.symm
      obtain rfl : fn = Tryz.f3 := (Option.some.inj (Tryz.func3.symm.trans hfn)).symm
      exact ⟨by kernel_rfl, fun j t ht => by
        rw [Tryz.params3] at ht
        have hm : t ∈ [9] := by simpa using Array.mem_of_getElem? ht
        have hall : ([9].all fun u => !Tryz.prog.wantsStandIn u) = true := by kernel_rfl
        exact (show Tryz.prog.wantsStandIn t = false by simpa using List.all_eq_true.1 hall t hm)⟩)
    (by kernel_rfl)
#print axioms ledgerParses_card
end Go.Proofs.YtjdhdjmdmnedfaaGreatDoor
end
