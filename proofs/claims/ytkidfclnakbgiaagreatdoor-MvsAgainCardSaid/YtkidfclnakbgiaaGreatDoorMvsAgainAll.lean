/- The law armadalaw17.MvsAgain answers true whatever it is handed, and what it was handed reads as it did; its tied card holds.
   Conditions: those of the row and the card alone: the listed variables of Go's library hold what the program's own text lays in them. -/
import Derived.Test.YtkidfclnakbgiaaGreatDoorZS9
import Derived.Test.YtkidfclnakbgiaaGreatDoorTie
import Derived.Test.YtkidfclnakbgiaaGreatDoorCards
import Derived.ProofKit
import Derived.OpenShut
import Derived.LaidMore
import Derived.Lay
import Derived.SevenTiedAt
import Derived.Stop.Joined
import Derived.Stop.LaidErr
import Derived.Carry
import Derived.Shelf.Vars
import Derived.Handed
import Derived.JoinedOf
import Derived.Test.YtkidfclnakbgiaaGreatDoorZS10
import Derived.Test.YtkidfclnakbgiaaGreatDoorZS36
import Derived.Test.YtkidfclnakbgiaaGreatDoorZS43
import Derived.Test.YtkidfclnakbgiaaGreatDoorZS40
import Derived.Test.YtkidfclnakbgiaaGreatDoorZS41
import Derived.Test.YtkidfclnakbgiaaGreatDoorZS44
import Derived.Test.YtkidfclnakbgiaaGreatDoorZS45
import Derived.Lib.SmallJoins
section
namespace Go.Proofs.YtkidfclnakbgiaaGreatDoor
open Go Go.ChangeShapes Go.WideShapes Go.ChangeAt Go.RowKit Go.Joins Go.Deep Go.Proofs.YtkidfclnakbgiaaGreatDoorW.PrintWords
set_option linter.unusedVariables false
theorem own : ownKnob Tryz.prog.godebug = none := by kernel_rfl
theorem laidOut : laidOutB Tryz.prog = true := by kernel_rfl
section
variable {H : Type} {enc : TypeId × Value → H} {P : Program}
theorem trodAll_carry (hl : laidOutB P = true) {W W' : World} (hb : Below W.heap.size W W') : ∀ {ts : List TypeId} {vs : List Value} {ds : List (DataW H)} {ps : List MemPlace},
    (ts.all fun t => P.readableRec t && decide (t < P.types.size)) = true → DataW.TrodAll enc P W 0 (fun _ => true) true ts vs ds ps → ∀ sp : Nat → Bool, (∀ p ∈ ps, sp p.block = true) → DataW.TrodAll enc P W' 0 sp true ts vs ds ps
  | [], [], [], _, _, h, _, _ => h
  | [], [], _ :: _, _, _, h, _, _ => h.elim
  | [], _ :: _, _, _, _, h, _, _ => h.elim
  | _ :: _, [], _, _, _, h, _, _ => h.elim
  | _ :: _, _ :: _, [], _, _, h, _, _ => h.elim
  | t :: ts, v :: vs, d :: ds, ps, hr, h, sp, hs => by
    have hlt := h.lt
    obtain ⟨p, q, h1, h2, rfl⟩ := h
    simp only [List.all_cons, Bool.and_eq_true, decide_eq_true_eq] at hr
    exact ⟨p, q, WideElems.Trod_stays hl hr.1.1 hr.1.2 h1 (fun x hx => hb.same (hlt x (by simp [hx]))) (fun x hx => hs x (by simp [hx])),
      trodAll_carry hl hb (by simpa using hr.2) h2 sp (fun x hx => hs x (by simp [hx])), rfl⟩
theorem post_true {f : Func} {s : ChangeSpec} {W W' : World} {args : Array Value} {ds : List (DataW H)} {before : List MemPlace} {tb : TypeId} (hl : laidOutB P = true) (hv : s.vars = [])
    (hW : DataW.Whole enc P f.params.toList s.vars false W args.toList ds [] before) (hr : (f.params.toList.all fun t => P.readableRec t && decide (t < P.types.size)) = true)
    (hres : f.resultTypes = #[tb]) (hbool : P.underlying tb = some .bool) (hfn : s.fn H (ds ++ []) = { results := [.lit (.bool true)], args := ds }) (hb : Below W.heap.size W W') :
    s.post enc P f false true false false W args (.bool true) W' := by
  have hlt := hW.lt
  obtain ⟨p, q, hA, hV, hpq, hz, hn⟩ := hW
  have hq : q = [] := by rw [hv] at hV; exact hV
  subst hq
  rw [List.append_nil] at hpq
  subst hpq
  refine ⟨ds, [], before, [], before, [], ⟨before, [], hA, hV, (List.append_nil _).symm, hz, hn⟩, ?_, ?_, ?_, hb.frame _, fun h => by cases h⟩
  · rw [hfn, hres]
    exact trodAll_mk1 (shut_bool hbool _)
  · rw [hfn]
    exact trodAll_carry hl hb hr hA _ (fun x hx => by simpa using hlt x hx)
  · rw [hfn, hv]
    exact rfl
theorem lifted_of {C : Checked} {os : Os} {f : FuncId} {fn : Func} {s : ChangeSpec} {conds : List PathCond} {laid : List (String × DataW Unit)} {tb : TypeId} (hl : laidOutB C.prog = true) (hv : s.vars = [])
    (own : ownKnob C.prog.godebug = none) (started : os.Started) (noInit : C.prog.inits.idxOf? f = none) (hfn : C.prog.funcs[f]? = some fn)
    (hr : (fn.params.toList.all fun t => C.prog.readableRec t && decide (t < C.prog.types.size)) = true)
    (hres : fn.resultTypes = #[tb]) (hbool : C.prog.underlying tb = some .bool)
    (hspec : ∀ ds : List (DataW H), ds.length = fn.params.size → s.fn H (ds ++ []) = { results := [.lit (.bool true)], args := ds })
    (witness : ∃ (w : World) (tape : Tape) (i : Input), w.os = os ∧ (w.forCall tape i).Shaped C.prog ∧ i.vars = [] ∧ Input.okWide C.prog (w.forCall tape i) .any w.heap.size f i ∧
      ((s.pre enc C.prog fn conds false (w.forCall tape i).memory i.args ∧ laidMetH C.prog laid (w.forCall tape i).memory) ∧ sizedMet enc C.prog fn (OpenSpec.ofChange s) false (w.forCall tape i).memory i.args) ∧
      ({} : Assume).holds C.prog (lone (Frame.enter C.prog f i.args .normal) [] (w.forCall tape i)))
    (law : ∀ (W : World) (base : Nat) (args : Array Value) (ds : List (DataW H)) (ps : List MemPlace),
      (∀ (j : Nat) t v, fn.params[j]? = some t → args[j]? = some v → Value.okWide C.prog W .any base t v) →
      DataW.TrodAll enc C.prog W 0 (fun _ => true) true fn.params.toList args.toList ds ps →
      (DataW.weightsEach C.prog fn.params.toList ds).all (· ≤ reachBytes) = true →
      W.ShapedOpen C.prog → laidMetH C.prog laid W →
      Calls C.prog f args W fun e W' => e = .returned (.bool true) ∧ Below W.heap.size W W') :
    ReturnsInHanded {} C os f .any (fun w args => (s.pre enc C.prog fn conds false w args ∧ laidMetH C.prog laid w) ∧ sizedMet enc C.prog fn (OpenSpec.ofChange s) false w args) (s.post enc C.prog fn false true false false) := by
  refine returnsInHanded_of_calls own started noInit witness ?_
  intro w tape i _ hsh _ hok hpre hholds
  obtain ⟨_, _, _, fn', hfn', _, _, _, _, hval⟩ := hok
  have e : fn' = fn := Option.some.inj (hfn'.symm.trans hfn)
  subst e
  obtain ⟨⟨⟨ds, gs, before, hw, hc⟩, hx⟩, hz⟩ := hpre
  have hgs : gs = [] := by
    obtain ⟨_, _, _, hV, _⟩ := hw
    rw [hv] at hV
    cases gs with
    | nil => rfl
    | cons _ _ => exact hV.elim
  subst hgs
  have hw' := DataW.Whole.of_heap (w' := w.forCall tape i) (by rfl) hw
  have hz' := hz.weights hw
  obtain ⟨p, q, hA, _⟩ := hw'
  have hlen : ∀ {ts : List TypeId} {vs : List Value} {ds : List (DataW H)} {ps : List MemPlace}, DataW.TrodAll enc C.prog (w.forCall tape i) 0 (fun _ => true) true ts vs ds ps → ds.length = ts.length := by
    intro ts
    induction ts with
    | nil => intro vs ds ps h; cases vs <;> cases ds <;> first | rfl | exact h.elim
    | cons t ts ih =>
      intro vs ds ps h
      cases vs <;> cases ds <;> first | exact h.elim | skip
      obtain ⟨_, _, _, h2, _⟩ := h
      simp [ih h2]
  have hz2 : (DataW.weightsEach C.prog fn'.params.toList ds).all (· ≤ reachBytes) = true := by
    have e1 : (OpenSpec.ofChange s).bare.plain.varTypes C.prog = [] := by
      show s.plain.varTypes C.prog = []
      unfold DataSpec.varTypes ChangeSpec.plain
      simp [hv]
    rw [e1, List.append_nil, List.append_nil] at hz'
    exact hz'
  refine (law (w.forCall tape i) w.heap.size i.args ds p hval hA hz2 hsh (hx.of_heap (by rfl))).mono fun e W' ⟨he, hb⟩ => ?_
  subst he
  refine ChangeSpec.post_blind (post_true hl hv (DataW.Whole.of_heap (w' := w.forCall tape i) (by rfl) hw) hr hres hbool (hspec ds ?_) hb)
  rw [hlen hA]; simp
end
theorem laid_mem {P : Program} {W : World} {x : String × DataW Unit} : ∀ {l : List (String × DataW Unit)}, laidMet P l W → x ∈ l → ∃ r, laidMet P (x :: r) W
  | [], _, h => by cases h
  | y :: l, hl, h => by
    rcases List.mem_cons.1 h with rfl | h'
    · exact ⟨l, hl⟩
    · exact laid_mem hl.tail h'
theorem iface_var {P : Program} {W : World} {n nm : String} {d : DataW Unit} {r : List (String × DataW Unit)} {g : Nat} {ti : TypeId} {ms : Array (String × TypeId)} (h : laidMet P ((n, .iface nm d) :: r) W)
    (hg : P.globalNamed n = some g) (ht : (P.globals[g]?).map (·.type) = some ti) (hi : P.underlying ti = some (.interface ms)) : ∃ tp p, W.var? P n = some #[.iface tp p] := by
  obtain ⟨ps, ⟨g0, t0, cs0, f0, p0, q0, hg0, ht0, hv0, hd0, _, _⟩, _, _⟩ := h
  obtain rfl := Option.some.inj (hg.symm.trans hg0)
  obtain rfl := Option.some.inj (ht.symm.trans ht0)
  obtain ⟨l0⟩ := cs0
  cases f0 with
  | zero => cases hd0
  | succ f0 =>
    unfold DataW.trod at hd0
    rw [hi] at hd0
    split at hd0 <;> first
      | (rename_i h1 h2; cases h1; done)
      | skip
    all_goals first
      | (cases hd0; done)
      | (rename_i u v h1 h2; simp only at h2; subst h2; exact ⟨u, v, hv0⟩)
      | skip
    all_goals (rename_i h1; cases h1)
section
variable {H : Type} {enc : TypeId × Value → H} {P : Program} {w : World} {base : Nat} {spare : Nat → Bool} {held : Bool}
end
/-- What the row lists gives the walk's world. -/
theorem gw_of {W : World} (h : W.ShapedOpen Tryz.prog) (hl : laidMetH Tryz.prog Rows.mvsAgainRow.laid W) : GW W := by
  rw [MakeChecks.laidMetH_plain _ _ _ (by kernel_rfl)] at hl
  obtain ⟨_, h1⟩ := laid_mem (x := ("internal/strconv.uint64pow10", Rows.laid_internal_strconv_uint64pow10)) hl (by repeat (first | exact List.mem_cons_self .. | apply List.mem_cons_of_mem))
  obtain ⟨_, h2⟩ := laid_mem (x := ("strconv.ErrRange", Rows.laid_strconv_ErrRange)) hl (by repeat (first | exact List.mem_cons_self .. | apply List.mem_cons_of_mem))
  obtain ⟨_, h3⟩ := laid_mem (x := ("strconv.ErrSyntax", Rows.laid_strconv_ErrSyntax)) hl (by repeat (first | exact List.mem_cons_self .. | apply List.mem_cons_of_mem))
  exact {
    maxLen := cell_of_shapedOpen_int (P := Tryz.prog) (g := 0) (t := 3) (zero := #[.int .i64 0]) h (of_decide_eq_true (by kernel_rfl)) (by kernel_rfl) rfl (by kernel_rfl) (by kernel_rfl) Tryz.underlying3
    pow10 := Lib.tabIs_of_head (k := .u64) (zs := Lib.pow10Tab) (g := 5) (t := 181) (e := 102) (n := 20) (by kernel_rfl) (by kernel_rfl) (by kernel_rfl) (by kernel_rfl) (by kernel_rfl) (by kernel_rfl)
      (show laidMet _ ((_, Lib.tabData .u64 Lib.pow10Tab) :: _) _ from (show Rows.laid_internal_strconv_uint64pow10 = (Lib.tabData .u64 Lib.pow10Tab : DataW Unit) from by kernel_rfl) ▸ h1)
    errS := iface_var h3 (g := 1) (ti := 130) (by kernel_rfl) (by kernel_rfl) Tryz.underlying130
    errR := iface_var h2 (g := 2) (ti := 130) (by kernel_rfl) (by kernel_rfl) Tryz.underlying130 }
end Go.Proofs.YtkidfclnakbgiaaGreatDoor
end

section
namespace Go.Proofs.YtkidfclnakbgiaaGreatDoor.LAgain
open Go.RowKit Go.Proofs.YtkidfclnakbgiaaGreatDoor Go.Proofs.YtkidfclnakbgiaaGreatDoor.K0 Go.Proofs.YtkidfclnakbgiaaGreatDoor.RD Go.Proofs.YtkidfclnakbgiaaGreatDoor.RO Go.Proofs.YtkidfclnakbgiaaGreatDoor.RS Go.Proofs.YtkidfclnakbgiaaGreatDoorW.PrintWords Go.Proofs.YtkidfclnakbgiaaGreatDoorW.PrintLast Go.Proofs.YtkidfclnakbgiaaGreatDoorW.PrintMore
attribute [local go_sem] max2_int min2_int max_two min_two max_three min_three max_four min_four
set_option linter.unusedVariables false
set_option linter.unusedSimpArgs false
end Go.Proofs.YtkidfclnakbgiaaGreatDoor.LAgain
end

section
namespace Go.Proofs.YtkidfclnakbgiaaGreatDoor.LAgain
open Go.RowKit Go.Proofs.YtkidfclnakbgiaaGreatDoor Go.Proofs.YtkidfclnakbgiaaGreatDoor.K0 Go.Proofs.YtkidfclnakbgiaaGreatDoor.RD Go.Proofs.YtkidfclnakbgiaaGreatDoor.RO Go.Proofs.YtkidfclnakbgiaaGreatDoor.RS Go.Proofs.YtkidfclnakbgiaaGreatDoorW.PrintWords Go.Proofs.YtkidfclnakbgiaaGreatDoorW.PrintLast Go.Proofs.YtkidfclnakbgiaaGreatDoorW.PrintMore
attribute [local go_sem] max2_int min2_int max_two min_two max_three min_three max_four min_four
set_option linter.unusedVariables false
set_option linter.unusedSimpArgs false
def armadalaw17_MvsAgain.l0 : Nat → List (S27) → List (S27) → Int → Option (Bool)
 | 0, _, _, _ => none
 | k + 1, x5, x6, x7 => if x7 < (x5.length : Int) then (if 0 ≤ x7 then ((armadalaw17_covers.f k x6 ((rd_T27 x5 x7).f0) ((rd_T27 x5 x7).f1.f0) ((rd_T27 x5 x7).f1.f1) ((rd_T27 x5 x7).f1.f2) ((rd_T27 x5 x7).f1.f3) ((rd_T27 x5 x7).f1.f4)).bind fun t117 => (if t117 = true then ((armadalaw17_same.f k x6 ((rd_T27 x5 x7).f0) ((rd_T27 x5 x7).f1.f0) ((rd_T27 x5 x7).f1.f1) ((rd_T27 x5 x7).f1.f2) ((rd_T27 x5 x7).f1.f3) ((rd_T27 x5 x7).f1.f4)).bind fun t119 => (if t119 = true then (armadalaw17_MvsAgain.l0 k x5 x6 (wrap64 (x7 + 1))) else (some false))) else (some false))) else (none)) else (if (x6.length : Int) = (x5.length : Int) then ((armadalaw17_live.f).bind fun t115 => (some t115)) else (some false))
def armadalaw17_MvsAgain.f (k : Nat) (l0 : List (S27)) (l1 : List (S46)) : Option (Bool) := (armadaref17_Small.f k l0 l1).bind fun t101 => (if t101 = true then ((armadalaw17_own.f k l1).bind fun t103 => ((mvs_List.f l0 t103).bind fun t106 => ((armadalaw17_own.f k l1).bind fun t109 => ((mvs_List.f t106 t109).bind fun t112 => (if (t112.length : Int) > (t106.length : Int) then (some false) else (armadalaw17_MvsAgain.l0 k t106 t112 0)))))) else ((armadalaw17_live.f).bind fun t102 => (some t102)))
theorem armadalaw17_MvsAgain.mono_l : ∀ k, (∀ y0 y1 y2, LeO (armadalaw17_MvsAgain.l0 k y0 y1 y2) (armadalaw17_MvsAgain.l0 (k + 1) y0 y1 y2))
 | 0 => fun _ _ _ r h => by simp [armadalaw17_MvsAgain.l0] at h
 | k + 1 => by
  have ih0 := armadalaw17_MvsAgain.mono_l k
  ·
   intro y0 y1 y2
   unfold armadalaw17_MvsAgain.l0
   repeat' first
   | (with_reducible exact ih0 _ _ _)
   | (with_reducible exact armadalaw17_covers.mono _ _ _ _ _ _ _ _)
   | (with_reducible exact armadalaw17_own.mono _ _)
   | (with_reducible exact armadalaw17_same.mono _ _ _ _ _ _ _ _)
   | (with_reducible exact armadaref17_Small.mono _ _ _)
   | (with_reducible exact LeO.refl _)
   | (with_reducible exact LeO.none _)
   | (with_reducible refine LeO.ite ?_ ?_)
   | (with_reducible refine LeO.bind ?_ (fun _ => ?_))
   | exact ih0 _ _ _
   | exact armadalaw17_covers.mono _ _ _ _ _ _ _ _
   | exact armadalaw17_own.mono _ _
   | exact armadalaw17_same.mono _ _ _ _ _ _ _ _
   | exact armadaref17_Small.mono _ _ _
   | exact LeO.none _
   | refine LeO.ite ?_ ?_
   | refine LeO.bind ?_ (fun _ => ?_)
theorem armadalaw17_MvsAgain.mono : ∀ a0 a1 k, LeO (armadalaw17_MvsAgain.f k a0 a1) (armadalaw17_MvsAgain.f (k + 1) a0 a1) := by
 intro a0 a1 k
 have ih0 := armadalaw17_MvsAgain.mono_l k
 unfold armadalaw17_MvsAgain.f
 repeat' first
   | (with_reducible exact ih0 _ _ _)
   | (with_reducible exact armadalaw17_covers.mono _ _ _ _ _ _ _ _)
   | (with_reducible exact armadalaw17_own.mono _ _)
   | (with_reducible exact armadalaw17_same.mono _ _ _ _ _ _ _ _)
   | (with_reducible exact armadaref17_Small.mono _ _ _)
   | (with_reducible exact LeO.refl _)
   | (with_reducible exact LeO.none _)
   | (with_reducible refine LeO.ite ?_ ?_)
   | (with_reducible refine LeO.bind ?_ (fun _ => ?_))
   | exact ih0 _ _ _
   | exact armadalaw17_covers.mono _ _ _ _ _ _ _ _
   | exact armadalaw17_own.mono _ _
   | exact armadalaw17_same.mono _ _ _ _ _ _ _ _
   | exact armadaref17_Small.mono _ _ _
   | exact LeO.none _
   | refine LeO.ite ?_ ?_
   | refine LeO.bind ?_ (fun _ => ?_)
set_option maxHeartbeats 8000000 in
set_option maxRecDepth 100000 in
theorem armadalaw17_MvsAgain.calls (k : Nat) (A0 : Option Addr) (c0 : Nat) (l0 : List (S27)) (A1 : Option Addr) (c1 : Nat) (l1 : List (S46)) (r : Bool) (w : World) (hr0 : Kd.C k27 w A0 l0.length l0) (hc0 : l0.length ≤ c0) (hr1 : Kd.C k46 w A1 l1.length l1) (hc1 : l1.length ≤ c1) (hG : GW w) (hT : r = true) (h : armadalaw17_MvsAgain.f k l0 l1 = some r) :
  Calls Tryz.prog 8 #[.slice A0 l0.length c0, .slice A1 l1.length c1] w fun e w' => e = .returned (.bool r) ∧ Below w.heap.size w w' := by
 have hu27 := Tryz.underlying27
 have HR0 := Aside0.mk hr0
 have HC0 := Aside0.mk hc0
 clear hr0 hc0
 have HR1 := Aside0.mk hr1
 have HC1 := Aside0.mk hc1
 clear hr1 hc1
 have HGW := Aside0.mk hG
 clear hG
 have HTRU_ := Aside0.mk hT
 clear hT
 have HB := Aside0.mk (Below.refl w.heap.size w)
 have H : ((armadaref17_Small.f k l0 l1).bind fun t101 => (if t101 = true then ((armadalaw17_own.f k l1).bind fun t103 => ((mvs_List.f l0 t103).bind fun t106 => ((armadalaw17_own.f k l1).bind fun t109 => ((mvs_List.f t106 t109).bind fun t112 => (if (t112.length : Int) > (t106.length : Int) then (some false) else (armadalaw17_MvsAgain.l0 k t106 t112 0)))))) else ((armadalaw17_live.f).bind fun t102 => (some t102)))) = some r := h
 clear h
 replace H := xb H
 obtain ⟨t101, A3, H⟩ := H
 by_cases c4 : t101 = true
 ·
  subst c4
  rw [if_pos rfl] at H
  replace H := xb H
  obtain ⟨t103, A5, H⟩ := H
  replace H := xb H
  obtain ⟨t106, A6, H⟩ := H
  replace H := xb H
  obtain ⟨t109, A7, H⟩ := H
  replace H := xb H
  obtain ⟨t112, A8, H⟩ := H
  by_cases c9 : (t112.length : Int) > (t106.length : Int)
  ·
   rw [if_pos c9] at H
   have c9b0 := decide_eq_true c9
   have c9b1 : decide (t106.length < t112.length) = true := decide_eq_true (Int.ofNat_lt.mp c9)
   clear c9
   exact absurd ((Option.some.inj H).trans HTRU_.out) (by decide)
  rw [if_neg c9] at H
  have c9b0 := decide_eq_false c9
  have c9b1 : decide (t106.length < t112.length) = false := decide_eq_false (fun h => c9 (Int.ofNat_lt.mpr h))
  clear c9
  have H' := Aside0.mk H
  clear H
  go_enter Tryz.func8, Tryz.ntmps8
  go_wp2_with (first | ((with_reducible refine gate_callee (f := 11) rfl ?_); refine goesL_ (some 10) rfl rfl Tryz.func11 (by kernel_rfl) rfl #[.slice A0 l0.length c0, .slice A1 l1.length c1] rfl xS ?_; (with_reducible refine (armadaref17_Small.calls k _ _ l0 _ _ l1 true _ ?side1 ?side2 ?side3 ?side4 A3.out).mono ?_); (case side1 => repeat (first | exact HR0.out | (with_reducible refine Kd.C_alloc ?_ _) | (with_reducible refine Kd.C_drewN ?_ _) | (with_reducible refine Kd.C_drew ?_))); (case side2 => exact HC0.out); (case side3 => repeat (first | exact HR1.out | (with_reducible refine Kd.C_alloc ?_ _) | (with_reducible refine Kd.C_drewN ?_ _) | (with_reducible refine Kd.C_drew ?_))); (case side4 => exact HC1.out); rintro e w10 ⟨rfl, hb⟩; refine ⟨_, rfl, ?_⟩; replace HB := Aside0.mk (below_step xB hb); (try clear hb); (try clear hb2); (try clear hk); (try clear hi)) | ((with_reducible refine gate_callee (f := 13) rfl ?_); refine goesL_ (some 15) rfl rfl Tryz.func13 (by kernel_rfl) rfl #[.slice A1 l1.length c1] rfl xS ?_; (with_reducible refine (armadalaw17_own.calls k (fun k_ => k_ < w.heap.size) _ _ l1 t103 _ ?side1 A5.out).mono ?_); (case side1 => exact Kd.V_mk HC1.out (Kd.F_below (Kd.C_F k46_heap HR1.out) xB)); rintro e w11 ⟨v104, rfl, ho0, hb⟩; refine ⟨_, rfl, ?_⟩; have HO105 := Aside0.mk (Kd.N_lower (Kd.N_mono (ok' := fun k_ => True) ho0 (fun k_ hk_ => trivial)) (below_size xB)); replace HB := Aside0.mk (below_step xB hb); (try clear hb); (try clear hb2); (try clear hk); (try clear hi); (try clear ho0); obtain ⟨Ao12, co12, eo12⟩ := Kd.N_slice HO105.out; subst eo12) | ((with_reducible refine gate_callee (f := 17) rfl ?_); refine goesL_ (some 16) rfl rfl Tryz.func17 (by kernel_rfl) rfl #[.slice A0 l0.length c0, .slice Ao12 t103.length co12] rfl xS ?_; (with_reducible refine (mvs_List.calls _ _ l0 _ _ t103 t106 _ ?side1 ?side2 ?side3 ?side4 ?side5 A6.out).mono ?_); (case side1 => repeat (first | exact (Kd.C_below HR0.out HB.out) | (with_reducible refine Kd.C_alloc ?_ _) | (with_reducible refine Kd.C_drewN ?_ _) | (with_reducible refine Kd.C_drew ?_))); (case side2 => exact HC0.out); (case side3 => repeat (first | exact (Kd.N_reads' HO105.out).2.2 | (with_reducible refine Kd.C_alloc ?_ _) | (with_reducible refine Kd.C_drewN ?_ _) | (with_reducible refine Kd.C_drew ?_))); (case side4 => exact (Kd.N_reads' HO105.out).2.1); (case side5 => exact GW.below HGW.out xB); rintro e w13 ⟨v107, rfl, ho0, hb⟩; refine ⟨_, rfl, ?_⟩; replace HO105 := Aside0.mk (Kd.N_elder' (by (with_reducible repeat (first | apply Kd.N_alloc | apply Kd.N_drewN | apply Kd.N_drew)); exact HO105.out) (Kd.R_base ho0) hb); have HO108 := Aside0.mk (Kd.R_lower ho0 (below_size xB)); replace HB := Aside0.mk (below_step xB hb); (try clear hb); (try clear hb2); (try clear hk); (try clear hi); (try clear ho0)) | ((with_reducible refine gate_callee (f := 13) rfl ?_); refine goesL_ (some 19) rfl rfl Tryz.func13 (by kernel_rfl) rfl #[.slice A1 l1.length c1] rfl xS ?_; (with_reducible refine (armadalaw17_own.calls k (fun k_ => k_ < w.heap.size) _ _ l1 t109 _ ?side1 A7.out).mono ?_); (case side1 => exact Kd.V_mk HC1.out (Kd.F_below (Kd.C_F k46_heap HR1.out) xB)); rintro e w14 ⟨v110, rfl, ho0, hb⟩; refine ⟨_, rfl, ?_⟩; have HO111 := Aside0.mk (Kd.N_lower (Kd.N_mono (ok' := fun k_ => some k_ ≠ (.slice Ao12 t103.length co12 : Value).ownBlock ∧ some k_ ≠ (v107 : Value).ownBlock) ho0 (fun k_ hk_ => ⟨Or.elim hk_ (fun hs_ => fun e_ => Nat.not_le.2 hs_ (Kd.N_base HO105.out k_ e_.symm)) (fun hn_ => (Kd.fresh' (Kd.N_lt (by (with_reducible repeat (first | apply Kd.N_alloc | apply Kd.N_drewN | apply Kd.N_drew)); exact HO105.out)) k_ hn_)), Or.elim hk_ (fun hs_ => fun e_ => Nat.not_le.2 hs_ (Kd.R_base HO108.out k_ e_.symm)) (fun hn_ => (Kd.fresh' (Kd.R_lt (by (with_reducible repeat (first | apply Kd.R_alloc | apply Kd.R_drewN | apply Kd.R_drew)); exact HO108.out)) k_ hn_))⟩)) (below_size xB)); replace HO105 := Aside0.mk (Kd.N_elder' (by (with_reducible repeat (first | apply Kd.N_alloc | apply Kd.N_drewN | apply Kd.N_drew)); exact HO105.out) (Kd.N_base ho0) hb); replace HO108 := Aside0.mk (Kd.R_below (by (with_reducible repeat (first | apply Kd.R_alloc | apply Kd.R_drewN | apply Kd.R_drew)); exact HO108.out) hb); replace HB := Aside0.mk (below_step xB hb); (try clear hb); (try clear hb2); (try clear hk); (try clear hi); (try clear ho0); obtain ⟨Ao15, co15, eo15⟩ := Kd.R_slice HO108.out; subst eo15; obtain ⟨Ao16, co16, eo16⟩ := Kd.N_slice HO111.out; subst eo16) | ((with_reducible refine gate_callee (f := 17) rfl ?_); refine goesL_ (some 20) rfl rfl Tryz.func17 (by kernel_rfl) rfl #[.slice Ao15 t106.length co15, .slice Ao16 t109.length co16] rfl xS ?_; (with_reducible refine (mvs_List.calls _ _ t106 _ _ t109 t112 _ ?side1 ?side2 ?side3 ?side4 ?side5 A8.out).mono ?_); (case side1 => repeat (first | exact (Kd.R_reads' HO108.out).2.2 | (with_reducible refine Kd.C_alloc ?_ _) | (with_reducible refine Kd.C_drewN ?_ _) | (with_reducible refine Kd.C_drew ?_))); (case side2 => exact (Kd.R_reads' HO108.out).2.1); (case side3 => repeat (first | exact (Kd.N_reads' HO111.out).2.2 | (with_reducible refine Kd.C_alloc ?_ _) | (with_reducible refine Kd.C_drewN ?_ _) | (with_reducible refine Kd.C_drew ?_))); (case side4 => exact (Kd.N_reads' HO111.out).2.1); (case side5 => exact GW.below HGW.out xB); rintro e w17 ⟨v113, rfl, ho0, hb⟩; refine ⟨_, rfl, ?_⟩; replace HO105 := Aside0.mk (Kd.N_elder' (by (with_reducible repeat (first | apply Kd.N_alloc | apply Kd.N_drewN | apply Kd.N_drew)); exact HO105.out) (Kd.R_base ho0) hb); replace HO111 := Aside0.mk (Kd.N_elder' (by (with_reducible repeat (first | apply Kd.N_alloc | apply Kd.N_drewN | apply Kd.N_drew)); exact HO111.out) (Kd.R_base ho0) hb); have HO114 := Aside0.mk (Kd.R_lower (Kd.R_new' ho0 (Kd.R_lt (by (with_reducible repeat (first | apply Kd.R_alloc | apply Kd.R_drewN | apply Kd.R_drew)); exact HO108.out))) (below_size xB)); replace HO108 := Aside0.mk (Kd.R_elder' (by (with_reducible repeat (first | apply Kd.R_alloc | apply Kd.R_drewN | apply Kd.R_drew)); exact HO108.out) (Kd.R_base ho0) hb); replace HB := Aside0.mk (below_step xB hb); (try clear hb); (try clear hb2); (try clear hk); (try clear hi); (try clear ho0); obtain ⟨Ao18, co18, eo18⟩ := Kd.R_slice HO114.out; subst eo18))
  go_loopg [7] k (fun kq v7 w' => ∃ (x7_1 : Int), v7 = .int .i64 x7_1 ∧ Aside0 (armadalaw17_MvsAgain.l0 kq t106 t112 x7_1 = some r) ∧ Aside0 (kq ≤ k) ∧ Aside0 (Kd.R k27 27 w' w.heap.size (fun k_ => some k_ ≠ ((.slice Ao18 t112.length co18) : Value).ownBlock) (.slice Ao15 t106.length co15) t106) ∧ Aside0 (Kd.R k27 27 w' w.heap.size (fun k_ => some k_ ≠ ((.slice Ao15 t106.length co15) : Value).ownBlock) (.slice Ao18 t112.length co18) t112) ∧ Aside0 (Below w.heap.size w w'))
  case atStart => exact ⟨(0), xR, H', ⟨Nat.le_refl _⟩, ⟨by (with_reducible repeat (first | apply Kd.R_alloc | apply Kd.R_drewN | apply Kd.R_drew)); exact Kd.R_mono HO108.out (fun _ hk => hk.2)⟩, ⟨by (with_reducible repeat (first | apply Kd.R_alloc | apply Kd.R_drewN | apply Kd.R_drew)); exact Kd.R_mono HO114.out (fun _ hk => hk.2)⟩, ⟨xB⟩⟩
  case round =>
   clear H'
   try clear c1
   try clear p2
   try clear c4
   try clear c8
   try clear c9
   try clear c9b0
   try clear c9b1
   try clear c11
   try clear c13
   try clear c17
   obtain ⟨x7_1, rfl, HA, HK1, HO_5, HO_6, HB⟩ := hrel
   cases gk with
   | zero => exact absurd HA.out (by simp [armadalaw17_MvsAgain.l0])
   | succ k1 =>
    have H := HA.out
    clear HA
    simp only [armadalaw17_MvsAgain.l0] at H
    by_cases c19 : x7_1 < (t106.length : Int)
    ·
     rw [if_pos c19] at H
     have c19b0 := decide_eq_true c19
     clear c19
     replace H := xI H
     obtain ⟨c20, H⟩ := H
     have c20b0 := decide_eq_true c20
     clear c20
     replace H := xb H
     obtain ⟨t117, A21, H⟩ := H
     by_cases c22 : t117 = true
     ·
      subst c22
      rw [if_pos rfl] at H
      replace H := xb H
      obtain ⟨t119, A23, H⟩ := H
      by_cases c24 : t119 = true
      ·
       subst c24
       rw [if_pos rfl] at H
       have H' := Aside0.mk H
       clear H
       have p116 : 0 ≤ (x7_1 : Int) := xD
       have q116 : x7_1 < (t106.length : Int) := xD
       obtain ⟨ad116, e116, hx116_0, hx116_1, hx116_2, hx116_3, hx116_4, hx116_5⟩ := at_T27 (Kd.R_reads' HO_5.out).2.2 x7_1 p116 q116
       cases e116
       replace p116 := eq_true p116
       replace q116 := eq_true q116
       go_wp2_with (first | ((with_reducible refine gate_callee (f := 24) rfl ?_); refine goesL_ (some 37) rfl rfl Tryz.func24 (by kernel_rfl) rfl #[.slice Ao18 t112.length co18, .agg #[.string ((rd_T27 t106 x7_1).f0), .int .i64 ((rd_T27 t106 x7_1).f1.f0), .int .i64 ((rd_T27 t106 x7_1).f1.f1), .int .i64 ((rd_T27 t106 x7_1).f1.f2), .string ((rd_T27 t106 x7_1).f1.f3), .string ((rd_T27 t106 x7_1).f1.f4)]] rfl xS ?_; (with_reducible refine (armadalaw17_covers.calls k1 _ _ t112 ((rd_T27 t106 x7_1).f0) ((rd_T27 t106 x7_1).f1.f0) ((rd_T27 t106 x7_1).f1.f1) ((rd_T27 t106 x7_1).f1.f2) ((rd_T27 t106 x7_1).f1.f3) ((rd_T27 t106 x7_1).f1.f4) true _ ?side1 ?side2 A21.out).mono ?_); (case side1 => repeat (first | exact (Kd.R_reads' HO_6.out).2.2 | (with_reducible refine Kd.C_alloc ?_ _) | (with_reducible refine Kd.C_drewN ?_ _) | (with_reducible refine Kd.C_drew ?_))); (case side2 => exact (Kd.R_reads' HO_6.out).2.1); rintro e w25 ⟨rfl, hb⟩; refine ⟨_, rfl, ?_⟩; replace HO_5 := Aside0.mk (Kd.R_below (by (with_reducible repeat (first | apply Kd.R_alloc | apply Kd.R_drewN | apply Kd.R_drew)); exact HO_5.out) hb); replace HO_6 := Aside0.mk (Kd.R_below (by (with_reducible repeat (first | apply Kd.R_alloc | apply Kd.R_drewN | apply Kd.R_drew)); exact HO_6.out) hb); replace HB := Aside0.mk (below_step xB hb); (try clear hb); (try clear hb2); (try clear hk); (try clear hi); have p118 : 0 ≤ (x7_1 : Int) := xD; have q118 : x7_1 < (t106.length : Int) := xD; obtain ⟨ad118, e118, hx118_0, hx118_1, hx118_2, hx118_3, hx118_4, hx118_5⟩ := at_T27 (Kd.R_reads' HO_5.out).2.2 x7_1 p118 q118; obtain rfl : ad116 = ad118 := (by injection e118); replace p118 := eq_true p118; replace q118 := eq_true q118) | (go_at_call 27; (with_reducible refine (armadalaw17_same.calls k1 _ _ t112 ((rd_T27 t106 x7_1).f0) ((rd_T27 t106 x7_1).f1.f0) ((rd_T27 t106 x7_1).f1.f1) ((rd_T27 t106 x7_1).f1.f2) ((rd_T27 t106 x7_1).f1.f3) ((rd_T27 t106 x7_1).f1.f4) true _ ?side1 ?side2 A23.out).mono ?_); (case side1 => repeat (first | exact (Kd.R_reads' HO_6.out).2.2 | (with_reducible refine Kd.C_alloc ?_ _) | (with_reducible refine Kd.C_drewN ?_ _) | (with_reducible refine Kd.C_drew ?_))); (case side2 => exact (Kd.R_reads' HO_6.out).2.1); rintro e w26 ⟨rfl, hb⟩; replace HO_5 := Aside0.mk (Kd.R_below (by (with_reducible repeat (first | apply Kd.R_alloc | apply Kd.R_drewN | apply Kd.R_drew)); exact HO_5.out) hb); replace HO_6 := Aside0.mk (Kd.R_below (by (with_reducible repeat (first | apply Kd.R_alloc | apply Kd.R_drewN | apply Kd.R_drew)); exact HO_6.out) hb); replace HB := Aside0.mk (below_step xB hb); (try clear hb); (try clear hb2); (try clear hk); (try clear hi)))
       go_roundg k1
       case measure => have := HK1.out; omega
       case rel => exact ⟨(wrap64 (x7_1 + 1)), xR, H', ⟨by have := HK1.out; omega⟩, ⟨by (with_reducible repeat (first | apply Kd.R_alloc | apply Kd.R_drewN | apply Kd.R_drew)); exact HO_5.out⟩, ⟨by (with_reducible repeat (first | apply Kd.R_alloc | apply Kd.R_drewN | apply Kd.R_drew)); exact HO_6.out⟩, ⟨xB⟩⟩
      replace c24 := Bool.eq_false_iff.mpr c24
      subst c24
      rw [if_neg (show ¬ (false = true) by decide)] at H
      exact absurd ((Option.some.inj H).trans HTRU_.out) (by decide)
     replace c22 := Bool.eq_false_iff.mpr c22
     subst c22
     rw [if_neg (show ¬ (false = true) by decide)] at H
     exact absurd ((Option.some.inj H).trans HTRU_.out) (by decide)
    rw [if_neg c19] at H
    have c19b0 := decide_eq_false c19
    clear c19
    by_cases c27 : (t112.length : Int) = (t106.length : Int)
    ·
     rw [if_pos c27] at H
     have c27b0 := beq_iff_eq.mpr c27
     have c27b1 := bne_eq_false_iff_eq.mpr c27
     have c27b2 : (t112.length == t106.length) = true := by first | simpa using c27 | (simp at c27 ⊢; omega)
     clear c27
     replace H := xb H
     obtain ⟨t115, A28, H⟩ := H
     obtain rfl := Option.some.inj H
     go_wp2_with (first | (go_at_call 12; (with_reducible refine (armadalaw17_live.calls  t115 _ ?side1 ?side2 A28.out).mono ?_); (case side1 => exact GW.below HGW.out xB); (case side2 => exact HTRU_.out); rintro e w29 ⟨rfl, hb⟩; replace HO_5 := Aside0.mk (Kd.R_below (by (with_reducible repeat (first | apply Kd.R_alloc | apply Kd.R_drewN | apply Kd.R_drew)); exact HO_5.out) hb); replace HO_6 := Aside0.mk (Kd.R_below (by (with_reducible repeat (first | apply Kd.R_alloc | apply Kd.R_drewN | apply Kd.R_drew)); exact HO_6.out) hb); replace HB := Aside0.mk (below_step xB hb); (try clear hb); (try clear hb2); (try clear hk); (try clear hi)))
     go_ret
     exact ⟨by first | rfl | (simp [errW_none, errW_some] <;> rfl) | (simp [*, errW_none, errW_some] <;> rfl) | (simp [isEmpty_bne]; done), xB⟩
    rw [if_neg c27] at H
    have c27b0 := beq_eq_false_iff_ne.mpr c27
    have c27b1 := bne_iff_ne.mpr c27
    have c27b2 : (t112.length == t106.length) = false := by first | simpa using c27 | (simp at c27 ⊢; omega)
    exact absurd ((Option.some.inj H).trans HTRU_.out) (by decide)
 replace c4 := Bool.eq_false_iff.mpr c4
 subst c4
 rw [if_neg (show ¬ (false = true) by decide)] at H
 replace H := xb H
 obtain ⟨t102, A30, H⟩ := H
 obtain rfl := Option.some.inj H
 go_enter Tryz.func8, Tryz.ntmps8
 go_wp2_with (first | ((with_reducible refine gate_callee (f := 11) rfl ?_); refine goesL_ (some 10) rfl rfl Tryz.func11 (by kernel_rfl) rfl #[.slice A0 l0.length c0, .slice A1 l1.length c1] rfl xS ?_; (with_reducible refine (armadaref17_Small.calls k _ _ l0 _ _ l1 false _ ?side1 ?side2 ?side3 ?side4 A3.out).mono ?_); (case side1 => repeat (first | exact HR0.out | (with_reducible refine Kd.C_alloc ?_ _) | (with_reducible refine Kd.C_drewN ?_ _) | (with_reducible refine Kd.C_drew ?_))); (case side2 => exact HC0.out); (case side3 => repeat (first | exact HR1.out | (with_reducible refine Kd.C_alloc ?_ _) | (with_reducible refine Kd.C_drewN ?_ _) | (with_reducible refine Kd.C_drew ?_))); (case side4 => exact HC1.out); rintro e w31 ⟨rfl, hb⟩; refine ⟨_, rfl, ?_⟩; replace HB := Aside0.mk (below_step xB hb); (try clear hb); (try clear hb2); (try clear hk); (try clear hi)) | ((with_reducible refine gate_callee (f := 12) rfl ?_); refine goesL_ (some 12) rfl rfl Tryz.func12 (by kernel_rfl) rfl #[] rfl xS ?_; (with_reducible refine (armadalaw17_live.calls  t102 _ ?side1 ?side2 A30.out).mono ?_); (case side1 => exact GW.below HGW.out xB); (case side2 => exact HTRU_.out); rintro e w32 ⟨rfl, hb⟩; refine ⟨_, rfl, ?_⟩; replace HB := Aside0.mk (below_step xB hb); (try clear hb); (try clear hb2); (try clear hk); (try clear hi)))
 go_ret
 exact ⟨by first | rfl | (simp [errW_none, errW_some] <;> rfl) | (simp [*, errW_none, errW_some] <;> rfl) | (simp [isEmpty_bne]; done), xB⟩
end Go.Proofs.YtkidfclnakbgiaaGreatDoor.LAgain
end

section
namespace Go.Proofs.YtkidfclnakbgiaaGreatDoor.LAgain
open Go.RowKit Go.Proofs.YtkidfclnakbgiaaGreatDoor Go.Proofs.YtkidfclnakbgiaaGreatDoor.K0 Go.Proofs.YtkidfclnakbgiaaGreatDoor.RD Go.Proofs.YtkidfclnakbgiaaGreatDoor.RO Go.Proofs.YtkidfclnakbgiaaGreatDoor.RS Go.Proofs.YtkidfclnakbgiaaGreatDoorW.PrintWords Go.Proofs.YtkidfclnakbgiaaGreatDoorW.PrintLast Go.Proofs.YtkidfclnakbgiaaGreatDoorW.PrintMore
attribute [local go_sem] max2_int min2_int max_two min_two max_three min_three max_four min_four
set_option linter.unusedVariables false
set_option linter.unusedSimpArgs false
end Go.Proofs.YtkidfclnakbgiaaGreatDoor.LAgain
end

section
namespace Go.Proofs.YtkidfclnakbgiaaGreatDoor
open Go Go.RowKit Go.Proofs Go.Proofs.YtkidfclnakbgiaaGreatDoorW.PrintWords Go.Proofs.YtkidfclnakbgiaaGreatDoor.K0 Go.Proofs.YtkidfclnakbgiaaGreatDoor.RD Go.Proofs.YtkidfclnakbgiaaGreatDoor.RS Go.Proofs.YtkidfclnakbgiaaGreatDoor.RO Go.Proofs.YtkidfclnakbgiaaGreatDoor.LAgain
set_option linter.unusedVariables false
set_option linter.unusedSimpArgs false
theorem again_l0 (root : List Rq) (l : List NdR) (S : IsSmall root l) : Ev (fun k => armadalaw17_MvsAgain.l0 k (mv.list root (l.map ndR)) (mv.list (mv.list root (l.map ndR)) (l.map ndR)) 0) true := by
  have hx := list_len root (l.map ndR)
  have h1 := S.rl; have h2 := S.fl
  have hle := Mv.again_len mv_good root (l.map ndR)
  refine ev_from (mv.list root (l.map ndR)).length (fun k n => armadalaw17_MvsAgain.l0 k (mv.list root (l.map ndR)) (mv.list (mv.list root (l.map ndR)) (l.map ndR)) (n : Int)) (fun _ => true) ?_ ?_ 0 (Nat.zero_le _)
  · refine ev_succ ?_
    simp only [armadalaw17_MvsAgain.l0, Int.lt_irrefl, if_false, if_pos (show ((mv.list (mv.list root (l.map ndR)) (l.map ndR)).length : Int) = ((mv.list root (l.map ndR)).length : Int) from by omega)]
    exact live_ev
  · intro n hn h
    obtain ⟨x, e1, e2, e3⟩ := rdR_at hn
    have hm := Mv.again_same mv_good (List.mem_of_getElem? e3)
    refine ev_succ ?_
    simp only [armadalaw17_MvsAgain.l0, if_pos (show (n : Int) < ((mv.list root (l.map ndR)).length : Int) from by omega), if_pos (show (0 : Int) ≤ (n : Int) from by omega), e1, wrap_s (show n < 9223372036854775807 by omega)]
    refine Ev.bind (ev_eq (covers_f (mv.list (mv.list root (l.map ndR)) (l.map ndR)) x (by omega)) hm.1) ?_
    simp only [if_true]
    refine Ev.bind (ev_eq (same_f (mv.list (mv.list root (l.map ndR)) (l.map ndR)) x (by omega)) hm.2) ?_
    simp only [if_true]
    exact h
theorem again_ev (root : List Rq) (l : List NdR) (hl : root.length ≤ 9223372036854775807) (hl1 : l.length ≤ 9223372036854775807) (hi : ∀ x ∈ l, x.f1.length ≤ 9223372036854775807) : Ev (fun k => armadalaw17_MvsAgain.f k root l) true := by
  unfold armadalaw17_MvsAgain.f
  refine Ev.bind (small_f root l hl hl1 hi) ?_
  cases hs : smallB root l
  · simp only [Bool.false_eq_true, if_false]; exact live_ev
  · have S := small_is hs
    have h1 := S.rl; have h2 := S.fl; have h3 := S.ll
    have hx := list_len root (l.map ndR)
    have hle := Mv.again_len mv_good root (l.map ndR)
    simp only [if_true]
    refine Ev.bind (own_f l (by omega)) ?_
    refine Ev.bind (list_f (a := root) (l := l) (by omega)) ?_
    refine Ev.bind (own_f l (by omega)) ?_
    refine Ev.bind (list_f (a := mv.list root (l.map ndR)) (l := l) (by omega)) ?_
    simp only [if_neg (show ¬ ((mv.list (mv.list root (l.map ndR)) (l.map ndR)).length : Int) > ((mv.list root (l.map ndR)).length : Int) from by omega)]
    exact again_l0 root l S
theorem again_pure (root : List Rq) (l : List NdR) (hl : root.length ≤ 9223372036854775807) (hl1 : l.length ≤ 9223372036854775807) (hi : ∀ x ∈ l, x.f1.length ≤ 9223372036854775807) : ∃ k, armadalaw17_MvsAgain.f k root l = some true := (again_ev root l hl hl1 hi).rounds
end Go.Proofs.YtkidfclnakbgiaaGreatDoor
end

section
namespace Go.Proofs.YtkidfclnakbgiaaGreatDoor
open Go Go.ChangeShapes Go.WideShapes Go.ChangeAt Go.RowKit Go.Joins Go.Deep Go.Proofs.YtkidfclnakbgiaaGreatDoor.LAgain
set_option linter.unusedVariables false
set_option maxRecDepth 100000 in
theorem mvsAgain_lifted (os : Os) (started : os.Started) (H : Type) (enc : TypeId × Value → H) :
    ReturnsInHanded {} Tryz.checked os 8 .any (fun w args => (Rows.mvsAgainSpec.pre enc Tryz.prog Tryz.f8 Rows.mvsAgainRow.domain false w args ∧ laidMetH Tryz.prog Rows.mvsAgainRow.laid w) ∧ sizedMet enc Tryz.prog Tryz.f8 (OpenSpec.ofChange Rows.mvsAgainSpec) false w args)
      (Rows.mvsAgainSpec.post enc Tryz.prog Tryz.f8 false true false false) := by
  refine lifted_of (C := Tryz.checked) (tb := 4) laidOut rfl own started (by kernel_rfl) Tryz.func8 (by kernel_rfl) (by kernel_rfl) Tryz.underlying4 ?_
    (ChangeSpec.witness_shaped (enc := enc) (C := Tryz.checked) (os := os) (X := fun w _ => laidMetH Tryz.prog Rows.mvsAgainRow.laid w) false (World.laidAll Tryz.prog os Rows.mvsAgainRow.laid) #[.slice none 0 0, .slice none 0 0] 8 (World.laidAll_os _ _ _)
      (World.shaped_of_ZipB (by kernel_rfl) (by kernel_rfl)) (by kernel_rfl) (by kernel_rfl) (by kernel_rfl)
      (by rw [MakeChecks.laidMetH_plain _ _ _ (by kernel_rfl)]; exact laidMet_laidAll _ (by kernel_rfl) (by kernel_rfl))) ?_
  · intro ds hd
    match ds, hd.trans (show Tryz.f8.params.size = 2 by kernel_rfl) with
    | [_, _], _ => rfl
  · intro W base args ds ps hval0 hA0 hz hsh hL
    have hval : ∀ (j : Nat) t v, Tryz.f8.params[j]? = some t → args[j]? = some v → Value.okWide Tryz.prog W .any base t v := hval0
    have hA : DataW.TrodAll enc Tryz.prog W 0 (fun _ => true) true Tryz.f8.params.toList args.toList ds ps := hA0
    rw [Tryz.params8] at hA hval
    obtain ⟨v0, v1, d0, d1, p0, p1, rfl, rfl, rfl, h0, h1⟩ := trodAll_two hA
    obtain ⟨A0, c0, x0, rfl, hc0, hr0⟩ := arg_reqs (hval 0 22 v0 rfl rfl) h0
    obtain ⟨A1, c1, x1, rfl, hc1, hr1⟩ := arg_nodes (hval 1 23 v1 rfl rfl) h1
    obtain ⟨k, hk⟩ := again_pure x0 x1 hr0.2.1 hr1.2.1 (nodes_short hr1)
    exact armadalaw17_MvsAgain.calls k A0 c0 x0 A1 c1 x1 true W hr0 hc0 hr1 hc1 (gw_of hsh hL) rfl hk
theorem mvsAgain_holds : Rows.MvsAgainSaid :=
  OpenClaim.holds_of_wide 8 Tryz.f8 rfl rfl rfl rfl rfl rfl rfl ⟨rfl, rfl, rfl, rfl, rfl⟩ rfl rfl rfl rfl rfl (by kernel_rfl) Tryz.func8 (by kernel_rfl)
    (of_decide_eq_true (by kernel_rfl)) (by unfold Func.isWrapper; first | (rw [if_pos (by decide +kernel)]; kernel_rfl) | (rw [if_neg (by decide +kernel)]; exact ⟨rfl, rfl⟩))
    (fun os started H enc _ => mvsAgain_lifted os started H enc)
theorem mvsAgain_card : Rows.MvsAgainCardSaid :=
  Claim7.holds_tied_plain_at .later [] [.data, .data, .data, .data, .sentinel, .sentinel, .pinned] true (true, "5949cf66e13fd1f391be309675234d90056db7f2d948a31634a7fe3da95e5fd9") true mvsAgain_holds (fun _ h => by cases h) (by kernel_rfl) (fun _ h => by cases h) mvsAgain_row_tie rfl ⟨rfl, rfl⟩ (by kernel_rfl) rfl
    (fun f fn hf hfn => by
      obtain rfl : f = 8 := Option.some.inj ((show Tryz.prog.funcNamed "armada/armadalaw17.MvsAgain" = some 8 by kernel_rfl).symm.trans hf) |>.symm
      obtain rfl : fn = Tryz.f8 := (Option.some.inj (Tryz.func8.symm.trans hfn)).symm
      exact ⟨by kernel_rfl, fun j t ht => by
        rw [Tryz.params8] at ht
        have hm : t ∈ [22, 23] := by simpa using Array.mem_of_getElem? ht
        have hall : ([22, 23].all fun u => !Tryz.prog.wantsStandIn u) = true := by kernel_rfl
        exact (show Tryz.prog.wantsStandIn t = false by simpa using List.all_eq_true.1 hall t hm)⟩)
    (by kernel_rfl)
#print axioms mvsAgain_card
end Go.Proofs.YtkidfclnakbgiaaGreatDoor
end
