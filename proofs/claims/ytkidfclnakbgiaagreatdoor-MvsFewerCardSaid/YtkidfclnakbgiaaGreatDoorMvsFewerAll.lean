/- The law armadalaw17.MvsFewer answers true whatever it is handed, and what it was handed reads as it did; its tied card holds.
   Conditions: those of the row and the card alone: the listed variables of Go's library hold what the program's own text lays in them. -/
import Derived.Test.YtkidfclnakbgiaaGreatDoorZS9
import Derived.Test.YtkidfclnakbgiaaGreatDoorTie
import Derived.Test.YtkidfclnakbgiaaGreatDoorCards
import Derived.ProofKit
import Derived.OpenShut
import Derived.LaidMore
import Derived.Lay
import Derived.SevenTiedAt
import Derived.Stop.Joined
import Derived.Stop.LaidErr
import Derived.Carry
import Derived.Shelf.Vars
import Derived.Handed
import Derived.JoinedOf
import Derived.Test.YtkidfclnakbgiaaGreatDoorZS10
import Derived.Test.YtkidfclnakbgiaaGreatDoorZS36
import Derived.Test.YtkidfclnakbgiaaGreatDoorZS43
import Derived.Test.YtkidfclnakbgiaaGreatDoorZS40
import Derived.Test.YtkidfclnakbgiaaGreatDoorZS41
import Derived.Test.YtkidfclnakbgiaaGreatDoorZS44
import Derived.Test.YtkidfclnakbgiaaGreatDoorZS45
import Derived.Lib.SmallJoins
section
namespace Go.Proofs.YtkidfclnakbgiaaGreatDoor
open Go Go.ChangeShapes Go.WideShapes Go.ChangeAt Go.RowKit Go.Joins Go.Deep Go.Proofs.YtkidfclnakbgiaaGreatDoorW.PrintWords
set_option linter.unusedVariables false
theorem own : ownKnob Tryz.prog.godebug = none := by kernel_rfl
theorem laidOut : laidOutB Tryz.prog = true := by kernel_rfl
section
variable {H : Type} {enc : TypeId × Value → H} {P : Program}
theorem trodAll_carry (hl : laidOutB P = true) {W W' : World} (hb : Below W.heap.size W W') : ∀ {ts : List TypeId} {vs : List Value} {ds : List (DataW H)} {ps : List MemPlace},
    (ts.all fun t => P.readableRec t && decide (t < P.types.size)) = true → DataW.TrodAll enc P W 0 (fun _ => true) true ts vs ds ps → ∀ sp : Nat → Bool, (∀ p ∈ ps, sp p.block = true) → DataW.TrodAll enc P W' 0 sp true ts vs ds ps
  | [], [], [], _, _, h, _, _ => h
  | [], [], _ :: _, _, _, h, _, _ => h.elim
  | [], _ :: _, _, _, _, h, _, _ => h.elim
  | _ :: _, [], _, _, _, h, _, _ => h.elim
  | _ :: _, _ :: _, [], _, _, h, _, _ => h.elim
  | t :: ts, v :: vs, d :: ds, ps, hr, h, sp, hs => by
    have hlt := h.lt
    obtain ⟨p, q, h1, h2, rfl⟩ := h
    simp only [List.all_cons, Bool.and_eq_true, decide_eq_true_eq] at hr
    exact ⟨p, q, WideElems.Trod_stays hl hr.1.1 hr.1.2 h1 (fun x hx => hb.same (hlt x (by simp [hx]))) (fun x hx => hs x (by simp [hx])),
      trodAll_carry hl hb (by simpa using hr.2) h2 sp (fun x hx => hs x (by simp [hx])), rfl⟩
theorem post_true {f : Func} {s : ChangeSpec} {W W' : World} {args : Array Value} {ds : List (DataW H)} {before : List MemPlace} {tb : TypeId} (hl : laidOutB P = true) (hv : s.vars = [])
    (hW : DataW.Whole enc P f.params.toList s.vars false W args.toList ds [] before) (hr : (f.params.toList.all fun t => P.readableRec t && decide (t < P.types.size)) = true)
    (hres : f.resultTypes = #[tb]) (hbool : P.underlying tb = some .bool) (hfn : s.fn H (ds ++ []) = { results := [.lit (.bool true)], args := ds }) (hb : Below W.heap.size W W') :
    s.post enc P f false true false false W args (.bool true) W' := by
  have hlt := hW.lt
  obtain ⟨p, q, hA, hV, hpq, hz, hn⟩ := hW
  have hq : q = [] := by rw [hv] at hV; exact hV
  subst hq
  rw [List.append_nil] at hpq
  subst hpq
  refine ⟨ds, [], before, [], before, [], ⟨before, [], hA, hV, (List.append_nil _).symm, hz, hn⟩, ?_, ?_, ?_, hb.frame _, fun h => by cases h⟩
  · rw [hfn, hres]
    exact trodAll_mk1 (shut_bool hbool _)
  · rw [hfn]
    exact trodAll_carry hl hb hr hA _ (fun x hx => by simpa using hlt x hx)
  · rw [hfn, hv]
    exact rfl
theorem lifted_of {C : Checked} {os : Os} {f : FuncId} {fn : Func} {s : ChangeSpec} {conds : List PathCond} {laid : List (String × DataW Unit)} {tb : TypeId} (hl : laidOutB C.prog = true) (hv : s.vars = [])
    (own : ownKnob C.prog.godebug = none) (started : os.Started) (noInit : C.prog.inits.idxOf? f = none) (hfn : C.prog.funcs[f]? = some fn)
    (hr : (fn.params.toList.all fun t => C.prog.readableRec t && decide (t < C.prog.types.size)) = true)
    (hres : fn.resultTypes = #[tb]) (hbool : C.prog.underlying tb = some .bool)
    (hspec : ∀ ds : List (DataW H), ds.length = fn.params.size → s.fn H (ds ++ []) = { results := [.lit (.bool true)], args := ds })
    (witness : ∃ (w : World) (tape : Tape) (i : Input), w.os = os ∧ (w.forCall tape i).Shaped C.prog ∧ i.vars = [] ∧ Input.okWide C.prog (w.forCall tape i) .any w.heap.size f i ∧
      ((s.pre enc C.prog fn conds false (w.forCall tape i).memory i.args ∧ laidMetH C.prog laid (w.forCall tape i).memory) ∧ sizedMet enc C.prog fn (OpenSpec.ofChange s) false (w.forCall tape i).memory i.args) ∧
      ({} : Assume).holds C.prog (lone (Frame.enter C.prog f i.args .normal) [] (w.forCall tape i)))
    (law : ∀ (W : World) (base : Nat) (args : Array Value) (ds : List (DataW H)) (ps : List MemPlace),
      (∀ (j : Nat) t v, fn.params[j]? = some t → args[j]? = some v → Value.okWide C.prog W .any base t v) →
      DataW.TrodAll enc C.prog W 0 (fun _ => true) true fn.params.toList args.toList ds ps →
      (DataW.weightsEach C.prog fn.params.toList ds).all (· ≤ reachBytes) = true →
      W.ShapedOpen C.prog → laidMetH C.prog laid W →
      Calls C.prog f args W fun e W' => e = .returned (.bool true) ∧ Below W.heap.size W W') :
    ReturnsInHanded {} C os f .any (fun w args => (s.pre enc C.prog fn conds false w args ∧ laidMetH C.prog laid w) ∧ sizedMet enc C.prog fn (OpenSpec.ofChange s) false w args) (s.post enc C.prog fn false true false false) := by
  refine returnsInHanded_of_calls own started noInit witness ?_
  intro w tape i _ hsh _ hok hpre hholds
  obtain ⟨_, _, _, fn', hfn', _, _, _, _, hval⟩ := hok
  have e : fn' = fn := Option.some.inj (hfn'.symm.trans hfn)
  subst e
  obtain ⟨⟨⟨ds, gs, before, hw, hc⟩, hx⟩, hz⟩ := hpre
  have hgs : gs = [] := by
    obtain ⟨_, _, _, hV, _⟩ := hw
    rw [hv] at hV
    cases gs with
    | nil => rfl
    | cons _ _ => exact hV.elim
  subst hgs
  have hw' := DataW.Whole.of_heap (w' := w.forCall tape i) (by rfl) hw
  have hz' := hz.weights hw
  obtain ⟨p, q, hA, _⟩ := hw'
  have hlen : ∀ {ts : List TypeId} {vs : List Value} {ds : List (DataW H)} {ps : List MemPlace}, DataW.TrodAll enc C.prog (w.forCall tape i) 0 (fun _ => true) true ts vs ds ps → ds.length = ts.length := by
    intro ts
    induction ts with
    | nil => intro vs ds ps h; cases vs <;> cases ds <;> first | rfl | exact h.elim
    | cons t ts ih =>
      intro vs ds ps h
      cases vs <;> cases ds <;> first | exact h.elim | skip
      obtain ⟨_, _, _, h2, _⟩ := h
      simp [ih h2]
  have hz2 : (DataW.weightsEach C.prog fn'.params.toList ds).all (· ≤ reachBytes) = true := by
    have e1 : (OpenSpec.ofChange s).bare.plain.varTypes C.prog = [] := by
      show s.plain.varTypes C.prog = []
      unfold DataSpec.varTypes ChangeSpec.plain
      simp [hv]
    rw [e1, List.append_nil, List.append_nil] at hz'
    exact hz'
  refine (law (w.forCall tape i) w.heap.size i.args ds p hval hA hz2 hsh (hx.of_heap (by rfl))).mono fun e W' ⟨he, hb⟩ => ?_
  subst he
  refine ChangeSpec.post_blind (post_true hl hv (DataW.Whole.of_heap (w' := w.forCall tape i) (by rfl) hw) hr hres hbool (hspec ds ?_) hb)
  rw [hlen hA]; simp
end
theorem laid_mem {P : Program} {W : World} {x : String × DataW Unit} : ∀ {l : List (String × DataW Unit)}, laidMet P l W → x ∈ l → ∃ r, laidMet P (x :: r) W
  | [], _, h => by cases h
  | y :: l, hl, h => by
    rcases List.mem_cons.1 h with rfl | h'
    · exact ⟨l, hl⟩
    · exact laid_mem hl.tail h'
theorem iface_var {P : Program} {W : World} {n nm : String} {d : DataW Unit} {r : List (String × DataW Unit)} {g : Nat} {ti : TypeId} {ms : Array (String × TypeId)} (h : laidMet P ((n, .iface nm d) :: r) W)
    (hg : P.globalNamed n = some g) (ht : (P.globals[g]?).map (·.type) = some ti) (hi : P.underlying ti = some (.interface ms)) : ∃ tp p, W.var? P n = some #[.iface tp p] := by
  obtain ⟨ps, ⟨g0, t0, cs0, f0, p0, q0, hg0, ht0, hv0, hd0, _, _⟩, _, _⟩ := h
  obtain rfl := Option.some.inj (hg.symm.trans hg0)
  obtain rfl := Option.some.inj (ht.symm.trans ht0)
  obtain ⟨l0⟩ := cs0
  cases f0 with
  | zero => cases hd0
  | succ f0 =>
    unfold DataW.trod at hd0
    rw [hi] at hd0
    split at hd0 <;> first
      | (rename_i h1 h2; cases h1; done)
      | skip
    all_goals first
      | (cases hd0; done)
      | (rename_i u v h1 h2; simp only at h2; subst h2; exact ⟨u, v, hv0⟩)
      | skip
    all_goals (rename_i h1; cases h1)
section
variable {H : Type} {enc : TypeId × Value → H} {P : Program} {w : World} {base : Nat} {spare : Nat → Bool} {held : Bool}
end
/-- What the row lists gives the walk's world. -/
theorem gw_of {W : World} (h : W.ShapedOpen Tryz.prog) (hl : laidMetH Tryz.prog Rows.mvsFewerRow.laid W) : GW W := by
  rw [MakeChecks.laidMetH_plain _ _ _ (by kernel_rfl)] at hl
  obtain ⟨_, h1⟩ := laid_mem (x := ("internal/strconv.uint64pow10", Rows.laid_internal_strconv_uint64pow10)) hl (by repeat (first | exact List.mem_cons_self .. | apply List.mem_cons_of_mem))
  obtain ⟨_, h2⟩ := laid_mem (x := ("strconv.ErrRange", Rows.laid_strconv_ErrRange)) hl (by repeat (first | exact List.mem_cons_self .. | apply List.mem_cons_of_mem))
  obtain ⟨_, h3⟩ := laid_mem (x := ("strconv.ErrSyntax", Rows.laid_strconv_ErrSyntax)) hl (by repeat (first | exact List.mem_cons_self .. | apply List.mem_cons_of_mem))
  exact {
    maxLen := cell_of_shapedOpen_int (P := Tryz.prog) (g := 0) (t := 3) (zero := #[.int .i64 0]) h (of_decide_eq_true (by kernel_rfl)) (by kernel_rfl) rfl (by kernel_rfl) (by kernel_rfl) Tryz.underlying3
    pow10 := Lib.tabIs_of_head (k := .u64) (zs := Lib.pow10Tab) (g := 5) (t := 181) (e := 102) (n := 20) (by kernel_rfl) (by kernel_rfl) (by kernel_rfl) (by kernel_rfl) (by kernel_rfl) (by kernel_rfl)
      (show laidMet _ ((_, Lib.tabData .u64 Lib.pow10Tab) :: _) _ from (show Rows.laid_internal_strconv_uint64pow10 = (Lib.tabData .u64 Lib.pow10Tab : DataW Unit) from by kernel_rfl) ▸ h1)
    errS := iface_var h3 (g := 1) (ti := 130) (by kernel_rfl) (by kernel_rfl) Tryz.underlying130
    errR := iface_var h2 (g := 2) (ti := 130) (by kernel_rfl) (by kernel_rfl) Tryz.underlying130 }
end Go.Proofs.YtkidfclnakbgiaaGreatDoor
end

section
namespace Go.Proofs.YtkidfclnakbgiaaGreatDoor.LFewer
open Go.RowKit Go.Proofs.YtkidfclnakbgiaaGreatDoor Go.Proofs.YtkidfclnakbgiaaGreatDoor.K0 Go.Proofs.YtkidfclnakbgiaaGreatDoor.RD Go.Proofs.YtkidfclnakbgiaaGreatDoor.RO Go.Proofs.YtkidfclnakbgiaaGreatDoor.RS Go.Proofs.YtkidfclnakbgiaaGreatDoorW.PrintWords Go.Proofs.YtkidfclnakbgiaaGreatDoorW.PrintLast Go.Proofs.YtkidfclnakbgiaaGreatDoorW.PrintMore
attribute [local go_sem] max2_int min2_int max_two min_two max_three min_three max_four min_four
set_option linter.unusedVariables false
set_option linter.unusedSimpArgs false
end Go.Proofs.YtkidfclnakbgiaaGreatDoor.LFewer
end

section
namespace Go.Proofs.YtkidfclnakbgiaaGreatDoor.LFewer
open Go.RowKit Go.Proofs.YtkidfclnakbgiaaGreatDoor Go.Proofs.YtkidfclnakbgiaaGreatDoor.K0 Go.Proofs.YtkidfclnakbgiaaGreatDoor.RD Go.Proofs.YtkidfclnakbgiaaGreatDoor.RO Go.Proofs.YtkidfclnakbgiaaGreatDoor.RS Go.Proofs.YtkidfclnakbgiaaGreatDoorW.PrintWords Go.Proofs.YtkidfclnakbgiaaGreatDoorW.PrintLast Go.Proofs.YtkidfclnakbgiaaGreatDoorW.PrintMore
attribute [local go_sem] max2_int min2_int max_two min_two max_three min_three max_four min_four
set_option linter.unusedVariables false
set_option linter.unusedSimpArgs false
mutual
def armadalaw17_MvsFewer.j0 : Nat → List (S27) → List (S46) → Int → Bool → Option (Bool)
 | 0, _, _, _, _ => none
 | k + 1, x0, x1, x2, x23 => if x23 = true then ((armadalaw17_live.f).bind fun t102 => (some t102)) else (if 0 ≤ x2 then (if x2 ≤ (x0.length : Int) then ((armadalaw17_own.f k x1).bind fun t107 => ((mvs_List.f (x0.take (x2 : Int).toNat) t107).bind fun t110 => ((armadalaw17_own.f k x1).bind fun t113 => ((mvs_List.f x0 t113).bind fun t116 => (armadalaw17_MvsFewer.l0 k x2 t110 t116 0))))) else (none)) else (none))
def armadalaw17_MvsFewer.l0 : Nat → Int → List (S27) → List (S27) → Int → Option (Bool)
 | 0, _, _, _, _ => none
 | k + 1, x2, x7, x8, x9 => if x9 < (x7.length : Int) then (if 0 ≤ x9 then ((armadalaw17_covers.f k x8 ((rd_T27 x7 x9).f0) ((rd_T27 x7 x9).f1.f0) ((rd_T27 x7 x9).f1.f1) ((rd_T27 x7 x9).f1.f2) ((rd_T27 x7 x9).f1.f3) ((rd_T27 x7 x9).f1.f4)).bind fun t120 => (if t120 = true then (armadalaw17_MvsFewer.l0 k x2 x7 x8 (wrap64 (x9 + 1))) else (some false))) else (none)) else (if (x7.length : Int) ≤ (x8.length : Int) then (if x2 > 0 then ((armadalaw17_live.f).bind fun t121 => (some t121)) else (if (x7.length : Int) = 0 then ((armadalaw17_live.f).bind fun t122 => (some t122)) else (some false))) else (some false))
end
def armadalaw17_MvsFewer.f (k : Nat) (l0 : List (S27)) (l1 : List (S46)) (a2 : Int) : Option (Bool) := (armadaref17_Small.f k l0 l1).bind fun t101 => (if t101 = true then (if a2 < 0 then (armadalaw17_MvsFewer.j0 k l0 l1 a2 true) else (armadalaw17_MvsFewer.j0 k l0 l1 a2 (decide (a2 > (l0.length : Int))))) else (armadalaw17_MvsFewer.j0 k l0 l1 a2 true))
theorem armadalaw17_MvsFewer.mono_l : ∀ k, (∀ y0 y1 y2 y3, LeO (armadalaw17_MvsFewer.j0 k y0 y1 y2 y3) (armadalaw17_MvsFewer.j0 (k + 1) y0 y1 y2 y3)) ∧ (∀ y0 y1 y2 y3, LeO (armadalaw17_MvsFewer.l0 k y0 y1 y2 y3) (armadalaw17_MvsFewer.l0 (k + 1) y0 y1 y2 y3))
 | 0 => ⟨fun _ _ _ _ r h => by simp [armadalaw17_MvsFewer.j0] at h, fun _ _ _ _ r h => by simp [armadalaw17_MvsFewer.l0] at h⟩
 | k + 1 => by
  obtain ⟨ih0, ih1⟩ := armadalaw17_MvsFewer.mono_l k
  refine ⟨?_, ?_⟩
  ·
   intro y0 y1 y2 y3
   unfold armadalaw17_MvsFewer.j0
   repeat' first
   | (with_reducible exact ih0 _ _ _ _)
   | (with_reducible exact ih1 _ _ _ _)
   | (with_reducible exact armadalaw17_covers.mono _ _ _ _ _ _ _ _)
   | (with_reducible exact armadalaw17_own.mono _ _)
   | (with_reducible exact armadaref17_Small.mono _ _ _)
   | (with_reducible exact LeO.refl _)
   | (with_reducible exact LeO.none _)
   | (with_reducible refine LeO.ite ?_ ?_)
   | (with_reducible refine LeO.bind ?_ (fun _ => ?_))
   | exact ih0 _ _ _ _
   | exact ih1 _ _ _ _
   | exact armadalaw17_covers.mono _ _ _ _ _ _ _ _
   | exact armadalaw17_own.mono _ _
   | exact armadaref17_Small.mono _ _ _
   | exact LeO.none _
   | refine LeO.ite ?_ ?_
   | refine LeO.bind ?_ (fun _ => ?_)
  ·
   intro y0 y1 y2 y3
   unfold armadalaw17_MvsFewer.l0
   repeat' first
   | (with_reducible exact ih0 _ _ _ _)
   | (with_reducible exact ih1 _ _ _ _)
   | (with_reducible exact armadalaw17_covers.mono _ _ _ _ _ _ _ _)
   | (with_reducible exact armadalaw17_own.mono _ _)
   | (with_reducible exact armadaref17_Small.mono _ _ _)
   | (with_reducible exact LeO.refl _)
   | (with_reducible exact LeO.none _)
   | (with_reducible refine LeO.ite ?_ ?_)
   | (with_reducible refine LeO.bind ?_ (fun _ => ?_))
   | exact ih0 _ _ _ _
   | exact ih1 _ _ _ _
   | exact armadalaw17_covers.mono _ _ _ _ _ _ _ _
   | exact armadalaw17_own.mono _ _
   | exact armadaref17_Small.mono _ _ _
   | exact LeO.none _
   | refine LeO.ite ?_ ?_
   | refine LeO.bind ?_ (fun _ => ?_)
theorem armadalaw17_MvsFewer.mono : ∀ a0 a1 a2 k, LeO (armadalaw17_MvsFewer.f k a0 a1 a2) (armadalaw17_MvsFewer.f (k + 1) a0 a1 a2) := by
 intro a0 a1 a2 k
 obtain ⟨ih0, ih1⟩ := armadalaw17_MvsFewer.mono_l k
 unfold armadalaw17_MvsFewer.f
 repeat' first
   | (with_reducible exact ih0 _ _ _ _)
   | (with_reducible exact ih1 _ _ _ _)
   | (with_reducible exact armadalaw17_covers.mono _ _ _ _ _ _ _ _)
   | (with_reducible exact armadalaw17_own.mono _ _)
   | (with_reducible exact armadaref17_Small.mono _ _ _)
   | (with_reducible exact LeO.refl _)
   | (with_reducible exact LeO.none _)
   | (with_reducible refine LeO.ite ?_ ?_)
   | (with_reducible refine LeO.bind ?_ (fun _ => ?_))
   | exact ih0 _ _ _ _
   | exact ih1 _ _ _ _
   | exact armadalaw17_covers.mono _ _ _ _ _ _ _ _
   | exact armadalaw17_own.mono _ _
   | exact armadaref17_Small.mono _ _ _
   | exact LeO.none _
   | refine LeO.ite ?_ ?_
   | refine LeO.bind ?_ (fun _ => ?_)
set_option maxHeartbeats 8000000 in
set_option maxRecDepth 100000 in
theorem armadalaw17_MvsFewer.calls (k : Nat) (A0 : Option Addr) (c0 : Nat) (l0 : List (S27)) (A1 : Option Addr) (c1 : Nat) (l1 : List (S46)) (a2 : Int) (r : Bool) (w : World) (hr0 : Kd.C k27 w A0 l0.length l0) (hc0 : l0.length ≤ c0) (hr1 : Kd.C k46 w A1 l1.length l1) (hc1 : l1.length ≤ c1) (hG : GW w) (hT : r = true) (h : armadalaw17_MvsFewer.f k l0 l1 a2 = some r) :
  Calls Tryz.prog 10 #[.slice A0 l0.length c0, .slice A1 l1.length c1, .int .i64 a2] w fun e w' => e = .returned (.bool r) ∧ Below w.heap.size w w' := by
 have hu27 := Tryz.underlying27
 have HR0 := Aside0.mk hr0
 have HC0 := Aside0.mk hc0
 clear hr0 hc0
 have HR1 := Aside0.mk hr1
 have HC1 := Aside0.mk hc1
 clear hr1 hc1
 have HGW := Aside0.mk hG
 clear hG
 have HTRU_ := Aside0.mk hT
 clear hT
 have HB := Aside0.mk (Below.refl w.heap.size w)
 have H : ((armadaref17_Small.f k l0 l1).bind fun t101 => (if t101 = true then (if a2 < 0 then (armadalaw17_MvsFewer.j0 k l0 l1 a2 true) else (armadalaw17_MvsFewer.j0 k l0 l1 a2 (decide (a2 > (l0.length : Int))))) else (armadalaw17_MvsFewer.j0 k l0 l1 a2 true))) = some r := h
 clear h
 have HC4 := Aside0.mk H
 clear H
 go_enter Tryz.func10, Tryz.ntmps10
 go_upto_region 1 with (fail)
 go_cut [23] (fun v23 wc => ∃ (kq : Nat) (x23_3 : Bool), v23 = .bool x23_3 ∧ Aside0 (armadalaw17_MvsFewer.j0 kq l0 l1 a2 x23_3 = some r) ∧ Aside0 (kq ≤ k) ∧ Aside0 (Below w.heap.size w wc))
 case first =>
  have H := HC4.out
  clear HC4
  replace H := xb H
  obtain ⟨t101, A5, H⟩ := H
  by_cases c6 : t101 = true
  ·
   subst c6
   rw [if_pos rfl] at H
   by_cases c7 : a2 < 0
   ·
    rw [if_pos c7] at H
    have c7b0 := decide_eq_true c7
    clear c7
    (first | rw [c7b0] | (simp only [i64_w, i32_w]; rw [c7b0]) | skip)
    have H' := Aside0.mk H
    clear H
    go_wp2_with (first | ((with_reducible refine gate_callee (f := 11) rfl ?_); refine goesL_ (some 12) rfl rfl Tryz.func11 (by kernel_rfl) rfl #[.slice A0 l0.length c0, .slice A1 l1.length c1] rfl xS ?_; (with_reducible refine (armadaref17_Small.calls k _ _ l0 _ _ l1 true _ ?side1 ?side2 ?side3 ?side4 A5.out).mono ?_); (case side1 => repeat (first | exact (Kd.C_below HR0.out HB.out) | (with_reducible refine Kd.C_alloc ?_ _) | (with_reducible refine Kd.C_drewN ?_ _) | (with_reducible refine Kd.C_drew ?_))); (case side2 => exact HC0.out); (case side3 => repeat (first | exact (Kd.C_below HR1.out HB.out) | (with_reducible refine Kd.C_alloc ?_ _) | (with_reducible refine Kd.C_drewN ?_ _) | (with_reducible refine Kd.C_drew ?_))); (case side4 => exact HC1.out); rintro e w8 ⟨rfl, hb⟩; refine ⟨_, rfl, ?_⟩; replace HB := Aside0.mk (below_step xB hb); (try clear hb); (try clear hb2); (try clear hk); (try clear hi)))
    go_meet
    case rel => exact ⟨_, (true), xR, H', ⟨by first | omega | exact Nat.le_refl _⟩, ⟨xB⟩⟩
   rw [if_neg c7] at H
   have c7b0 := decide_eq_false c7
   clear c7
   (first | rw [c7b0] | (simp only [i64_w, i32_w]; rw [c7b0]) | skip)
   have H' := Aside0.mk H
   clear H
   go_wp2_with (first | ((with_reducible refine gate_callee (f := 11) rfl ?_); refine goesL_ (some 12) rfl rfl Tryz.func11 (by kernel_rfl) rfl #[.slice A0 l0.length c0, .slice A1 l1.length c1] rfl xS ?_; (with_reducible refine (armadaref17_Small.calls k _ _ l0 _ _ l1 true _ ?side1 ?side2 ?side3 ?side4 A5.out).mono ?_); (case side1 => repeat (first | exact (Kd.C_below HR0.out HB.out) | (with_reducible refine Kd.C_alloc ?_ _) | (with_reducible refine Kd.C_drewN ?_ _) | (with_reducible refine Kd.C_drew ?_))); (case side2 => exact HC0.out); (case side3 => repeat (first | exact (Kd.C_below HR1.out HB.out) | (with_reducible refine Kd.C_alloc ?_ _) | (with_reducible refine Kd.C_drewN ?_ _) | (with_reducible refine Kd.C_drew ?_))); (case side4 => exact HC1.out); rintro e w9 ⟨rfl, hb⟩; refine ⟨_, rfl, ?_⟩; replace HB := Aside0.mk (below_step xB hb); (try clear hb); (try clear hb2); (try clear hk); (try clear hi)))
   go_meet
   case rel => exact ⟨_, (decide (a2 > (l0.length : Int))), xR, H', ⟨by first | omega | exact Nat.le_refl _⟩, ⟨xB⟩⟩
  replace c6 := Bool.eq_false_iff.mpr c6
  subst c6
  rw [if_neg (show ¬ (false = true) by decide)] at H
  have H' := Aside0.mk H
  clear H
  go_wp2_with (first | ((with_reducible refine gate_callee (f := 11) rfl ?_); refine goesL_ (some 12) rfl rfl Tryz.func11 (by kernel_rfl) rfl #[.slice A0 l0.length c0, .slice A1 l1.length c1] rfl xS ?_; (with_reducible refine (armadaref17_Small.calls k _ _ l0 _ _ l1 false _ ?side1 ?side2 ?side3 ?side4 A5.out).mono ?_); (case side1 => repeat (first | exact (Kd.C_below HR0.out HB.out) | (with_reducible refine Kd.C_alloc ?_ _) | (with_reducible refine Kd.C_drewN ?_ _) | (with_reducible refine Kd.C_drew ?_))); (case side2 => exact HC0.out); (case side3 => repeat (first | exact (Kd.C_below HR1.out HB.out) | (with_reducible refine Kd.C_alloc ?_ _) | (with_reducible refine Kd.C_drewN ?_ _) | (with_reducible refine Kd.C_drew ?_))); (case side4 => exact HC1.out); rintro e w10 ⟨rfl, hb⟩; refine ⟨_, rfl, ?_⟩; replace HB := Aside0.mk (below_step xB hb); (try clear hb); (try clear hb2); (try clear hk); (try clear hi)))
  go_meet
  case rel => exact ⟨_, (true), xR, H', ⟨by first | omega | exact Nat.le_refl _⟩, ⟨xB⟩⟩
 case rest =>
  clear HC4
  try clear c1
  try clear p2
  try clear c6
  try clear c7
  try clear c7b0
  try clear c10
  obtain ⟨kq, x23_3, rfl, HA, HJ3, HB⟩ := hcut
  cases kq with
  | zero => exact absurd HA.out (by simp [armadalaw17_MvsFewer.j0])
  | succ kj3 =>
   have H := HA.out
   clear HA
   simp only [armadalaw17_MvsFewer.j0] at H
   by_cases c11 : x23_3 = true
   ·
    subst c11
    rw [if_pos rfl] at H
    replace H := xb H
    obtain ⟨t102, A12, H⟩ := H
    obtain rfl := Option.some.inj H
    go_wp2_with (first | ((with_reducible refine gate_callee (f := 12) rfl ?_); refine goesL_ (some 24) rfl rfl Tryz.func12 (by kernel_rfl) rfl #[] rfl xS ?_; (with_reducible refine (armadalaw17_live.calls  t102 _ ?side1 ?side2 A12.out).mono ?_); (case side1 => exact GW.below HGW.out xB); (case side2 => exact HTRU_.out); rintro e w13 ⟨rfl, hb⟩; refine ⟨_, rfl, ?_⟩; replace HB := Aside0.mk (below_step xB hb); (try clear hb); (try clear hb2); (try clear hk); (try clear hi)))
    go_ret
    exact ⟨by first | rfl | (simp [errW_none, errW_some] <;> rfl) | (simp [*, errW_none, errW_some] <;> rfl) | (simp [isEmpty_bne]; done), xB⟩
   replace c11 := Bool.eq_false_iff.mpr c11
   subst c11
   rw [if_neg (show ¬ (false = true) by decide)] at H
   replace H := xI H
   obtain ⟨c14, H⟩ := H
   have c14b0 := eq_true c14
   have c14b1 := decide_eq_true c14
   clear c14
   replace H := xI H
   obtain ⟨c15, H⟩ := H
   have c15b0 := eq_true c15
   have c15b1 := decide_eq_true c15
   clear c15
   obtain ⟨y103, hy103⟩ : ∃ y_ : List (S27), y_ = (l0.take (a2 : Int).toNat) := ⟨_, rfl⟩
   replace H : ((armadalaw17_own.f kj3 l1).bind fun t107 => ((mvs_List.f y103 t107).bind fun t110 => ((armadalaw17_own.f kj3 l1).bind fun t113 => ((mvs_List.f l0 t113).bind fun t116 => (armadalaw17_MvsFewer.l0 kj3 a2 t110 t116 0))))) = some r := by first | (rw [hy103]; with_reducible exact H) | (have H2_ := (Option.bind_some _ _).symm.trans H; rw [hy103]; with_reducible exact H2_) | (have H2_ := (Option.bind_some _ _).symm.trans H; with_reducible exact H2_) | with_reducible exact H | (rw [hy103]; exact H) | exact H
   have Ny103 := Aside0.mk hy103
   clear hy103
   replace H := xb H
   obtain ⟨t107, A16, H⟩ := H
   replace H := xb H
   obtain ⟨t110, A17, H⟩ := H
   replace H := xb H
   obtain ⟨t113, A18, H⟩ := H
   replace H := xb H
   obtain ⟨t116, A19, H⟩ := H
   have H' := Aside0.mk H
   clear H
   try go_wp2
   have n0_ := Aside0.mk (below_drew1 HB.out)
   clear HB
   have HB := n0_
   clear n0_
   have q21 : (a2 : Int) ≤ ((l0.length : Int) : Int) := xD
   obtain ⟨i021, hi021, _, hsz21, _⟩ := info_parts info27
   have hroom21 : l0.length ≤ c0 := HC0.out
   have hC21 : Kd.C k27 _ A0 l0.length l0 := HR0.out
   have hcut21 := cut_to (P := Tryz.prog) 22 27 .i64 Tryz.underlying22 hi021 A0 l0.length c0 a2 (xD) q21 hroom21
   have hr21 := Kd.C_take (m := (a2 : Int).toNat) hC21 (by omega)
   have hy21 : y103.length = (a2 : Int).toNat := (by rw [Ny103.out, List.length_take]; omega)
   rw [← Ny103.out] at hr21
   rw [← hy21] at hcut21
   have HR106 := Aside0.mk hr21
   have HC106 := Aside0.mk (show y103.length ≤ c0 from by omega)
   clear hr21 hC21 hroom21 hi021 hsz21
   have KY21 := Aside0.mk hy21
   clear hy21
   replace q21 := eq_true q21
   refine start_ (n := 7) (S := fun w' => True) (ds := []) #[false, false, false, false, false, false, false] (by kernel_rfl) rfl rfl trivial (fun hHeld => ?_)
   generalize wc.drew = w20 at HB HR106 hHeld ⊢
   refine pure_ (i := 0) (N := some 25) (v := ?_) (a' := ?_) #[true, false, false, false, false, false, false] rfl rfl (by kernel_rfl) (fun _ _ _ h => h) (Or.inl ⟨by rfl, ?_⟩) ?_ ?_
   rotate_left
   ·
    intro w'
    go_simp
    with_reducible rfl
   rotate_left
   ·
    simp only [Act.put, List.setIfInBounds_toArray, List.set_cons_zero, List.set_cons_succ, i64_w, i32_w]
    rfl
   refine pure_ (i := 1) (N := some 26) (v := ?_) (a' := ?_) #[true, true, false, false, false, false, false] rfl rfl (by kernel_rfl) (fun _ _ _ h => h) (Or.inl ⟨by rfl, ?_⟩) ?_ ?_
   rotate_left
   ·
    intro w'
    go_simp
    with_reducible rfl
   rotate_left
   ·
    simp only [Act.put, List.setIfInBounds_toArray, List.set_cons_zero, List.set_cons_succ, i64_w, i32_w]
    rfl
   refine pure_ (i := 2) (N := some 27) (v := ?_) (a' := ?_) #[true, true, true, false, false, false, false] rfl rfl (by kernel_rfl) (fun _ _ _ h => h) (Or.inl ⟨by rfl, ?_⟩) ?_ ?_
   rotate_left
   ·
    intro w'
    go_simp
    with_reducible rfl
   rotate_left
   ·
    simp only [Act.put, List.setIfInBounds_toArray, List.set_cons_zero, List.set_cons_succ, i64_w, i32_w]
    rfl
   refine pure_ (i := 3) (N := some 28) (v := ?_) (a' := ?_) #[true, true, true, true, false, false, false] rfl rfl (by kernel_rfl) (fun _ _ _ h => h) (Or.inl ⟨by rfl, ?_⟩) ?_ ?_
   rotate_left
   ·
    intro w'
    go_simp
    with_reducible rfl
   rotate_left
   ·
    simp only [Act.put, List.setIfInBounds_toArray, List.set_cons_zero, List.set_cons_succ, i64_w, i32_w]
    rfl
   refine one_ (i := 4) (N := some 29) #[true, true, true, true, true, false, false] rfl rfl (by kernel_rfl) (by decide) (fun K hK => ?_)
   refine goes_ Tryz.func13 (by kernel_rfl) rfl #[.slice A1 l1.length c1] (by rfl) rfl rfl xS ?_
   with_reducible refine (armadalaw17_own.calls kj3 (fun k_ => k_ < w.heap.size) _ _ l1 t107 _ ?side1 A16.out).mono ?_
   (case side1 => exact Kd.V_mk HC1.out (Kd.F_below (Kd.C_F k46_heap HR1.out) xB))
   rintro e w22 ⟨v108, rfl, ho0, hb⟩
   refine ⟨_, rfl, ?_⟩
   have n0_ := Aside0.mk (Kd.N_lower (Kd.N_mono (ok' := fun k_ => True) ho0 (fun k_ hk_ => trivial)) (below_size xB))
   have n1_ := Aside0.mk (below_step xB hb)
   clear HB
   have HO109 := n0_
   have HB := n1_
   clear n0_ n1_
   (try clear hb)
   (try clear hb2)
   (try clear hk)
   (try clear hi)
   (try clear ho0)
   obtain ⟨Ao23, co23, eo23⟩ := Kd.N_slice HO109.out
   (first | subst eo23 | (injection eo23 with f1_ f2_ f3_; have f4_ := f1_.symm; have f5_ := f3_.symm; clear f1_ f2_ f3_; subst f4_; subst f5_))
   refine hK.out _ _ trivial (fun hHeld => ?_)
   clear hK K
   refine norm_ (a' := ?_) ?_ ?_
   rotate_left
   ·
    show Act.put _ (some 29) _ = _
    simp only [Act.put, List.setIfInBounds_toArray, List.set_cons_zero, List.set_cons_succ, i64_w, i32_w]
    rfl
   refine one_ (i := 5) (N := some 30) #[true, true, true, true, true, true, false] rfl rfl (by kernel_rfl) (by decide) (fun K hK => ?_)
   refine goes_ Tryz.func17 (by kernel_rfl) rfl #[.slice A0 y103.length c0, .slice Ao23 t107.length co23] (by rfl) rfl rfl xS ?_
   with_reducible refine (mvs_List.calls _ _ y103 _ _ t107 t110 _ ?side1 ?side2 ?side3 ?side4 ?side5 A17.out).mono ?_
   (case side1 => repeat (first | exact (Kd.C_below HR106.out HB.out) | (with_reducible refine Kd.C_alloc ?_ _) | (with_reducible refine Kd.C_drewN ?_ _) | (with_reducible refine Kd.C_drew ?_)))
   (case side2 => exact HC106.out)
   (case side3 => repeat (first | exact (Kd.N_reads' HO109.out).2.2 | (with_reducible refine Kd.C_alloc ?_ _) | (with_reducible refine Kd.C_drewN ?_ _) | (with_reducible refine Kd.C_drew ?_)))
   (case side4 => exact (Kd.N_reads' HO109.out).2.1)
   (case side5 => exact GW.below HGW.out xB)
   rintro e w24 ⟨v111, rfl, ho0, hb⟩
   refine ⟨_, rfl, ?_⟩
   have n0_ := Aside0.mk (Kd.N_elder' (by (with_reducible repeat (first | apply Kd.N_alloc | apply Kd.N_drewN | apply Kd.N_drew)); exact HO109.out) (Kd.R_base ho0) hb)
   have n1_ := Aside0.mk (Kd.R_lower ho0 (below_size xB))
   have n2_ := Aside0.mk (below_step xB hb)
   clear HO109
   clear HB
   have HO109 := n0_
   have HO112 := n1_
   have HB := n2_
   clear n0_ n1_ n2_
   (try clear hb)
   (try clear hb2)
   (try clear hk)
   (try clear hi)
   (try clear ho0)
   refine hK.out _ _ trivial (fun hHeld => ?_)
   clear hK K
   refine norm_ (a' := ?_) ?_ ?_
   rotate_left
   ·
    show Act.put _ (some 30) _ = _
    simp only [Act.put, List.setIfInBounds_toArray, List.set_cons_zero, List.set_cons_succ, i64_w, i32_w]
    rfl
   refine pure_ (i := 6) (N := some 7) (v := ?_) (a' := ?_) #[true, true, true, true, true, true, true] rfl rfl (by kernel_rfl) (fun _ _ _ h => h) (Or.inl ⟨by rfl, ?_⟩) ?_ ?_
   rotate_left
   ·
    intro w'
    go_simp
    with_reducible rfl
   rotate_left
   ·
    simp only [Act.put, List.setIfInBounds_toArray, List.set_cons_zero, List.set_cons_succ, i64_w, i32_w]
    rfl
   refine done_ (by kernel_rfl) ?_
   try go_wp2_with (first | ((with_reducible refine gate_callee (f := 13) rfl ?_); refine goesL_ (some 33) rfl rfl Tryz.func13 (by kernel_rfl) rfl #[.slice A1 l1.length c1] rfl xS ?_; (with_reducible refine (armadalaw17_own.calls kj3 (fun k_ => k_ < w.heap.size) _ _ l1 t113 _ ?side1 A18.out).mono ?_); (case side1 => exact Kd.V_mk HC1.out (Kd.F_below (Kd.C_F k46_heap HR1.out) xB)); rintro e w25 ⟨v114, rfl, ho0, hb⟩; refine ⟨_, rfl, ?_⟩; have HO115 := Aside0.mk (Kd.N_lower (Kd.N_mono (ok' := fun k_ => some k_ ≠ (.slice Ao23 t107.length co23 : Value).ownBlock ∧ some k_ ≠ (v111 : Value).ownBlock) ho0 (fun k_ hk_ => ⟨Or.elim hk_ (fun hs_ => fun e_ => Nat.not_le.2 hs_ (Kd.N_base HO109.out k_ e_.symm)) (fun hn_ => (Kd.fresh' (Kd.N_lt (by (with_reducible repeat (first | apply Kd.N_alloc | apply Kd.N_drewN | apply Kd.N_drew)); exact HO109.out)) k_ hn_)), Or.elim hk_ (fun hs_ => fun e_ => Nat.not_le.2 hs_ (Kd.R_base HO112.out k_ e_.symm)) (fun hn_ => (Kd.fresh' (Kd.R_lt (by (with_reducible repeat (first | apply Kd.R_alloc | apply Kd.R_drewN | apply Kd.R_drew)); exact HO112.out)) k_ hn_))⟩)) (below_size xB)); replace HO109 := Aside0.mk (Kd.N_elder' (by (with_reducible repeat (first | apply Kd.N_alloc | apply Kd.N_drewN | apply Kd.N_drew)); exact HO109.out) (Kd.N_base ho0) hb); replace HO112 := Aside0.mk (Kd.R_below (by (with_reducible repeat (first | apply Kd.R_alloc | apply Kd.R_drewN | apply Kd.R_drew)); exact HO112.out) hb); replace HB := Aside0.mk (below_step xB hb); (try clear hb); (try clear hb2); (try clear hk); (try clear hi); (try clear ho0); obtain ⟨Ao26, co26, eo26⟩ := Kd.N_slice HO115.out; subst eo26) | ((with_reducible refine gate_callee (f := 17) rfl ?_); refine goesL_ (some 34) rfl rfl Tryz.func17 (by kernel_rfl) rfl #[.slice A0 l0.length c0, .slice Ao26 t113.length co26] rfl xS ?_; (with_reducible refine (mvs_List.calls _ _ l0 _ _ t113 t116 _ ?side1 ?side2 ?side3 ?side4 ?side5 A19.out).mono ?_); (case side1 => repeat (first | exact (Kd.C_below HR0.out HB.out) | (with_reducible refine Kd.C_alloc ?_ _) | (with_reducible refine Kd.C_drewN ?_ _) | (with_reducible refine Kd.C_drew ?_))); (case side2 => exact HC0.out); (case side3 => repeat (first | exact (Kd.N_reads' HO115.out).2.2 | (with_reducible refine Kd.C_alloc ?_ _) | (with_reducible refine Kd.C_drewN ?_ _) | (with_reducible refine Kd.C_drew ?_))); (case side4 => exact (Kd.N_reads' HO115.out).2.1); (case side5 => exact GW.below HGW.out xB); rintro e w27 ⟨v117, rfl, ho0, hb⟩; refine ⟨_, rfl, ?_⟩; replace HO109 := Aside0.mk (Kd.N_elder' (by (with_reducible repeat (first | apply Kd.N_alloc | apply Kd.N_drewN | apply Kd.N_drew)); exact HO109.out) (Kd.R_base ho0) hb); replace HO115 := Aside0.mk (Kd.N_elder' (by (with_reducible repeat (first | apply Kd.N_alloc | apply Kd.N_drewN | apply Kd.N_drew)); exact HO115.out) (Kd.R_base ho0) hb); have HO118 := Aside0.mk (Kd.R_lower (Kd.R_new' ho0 (Kd.R_lt (by (with_reducible repeat (first | apply Kd.R_alloc | apply Kd.R_drewN | apply Kd.R_drew)); exact HO112.out))) (below_size xB)); replace HO112 := Aside0.mk (Kd.R_elder' (by (with_reducible repeat (first | apply Kd.R_alloc | apply Kd.R_drewN | apply Kd.R_drew)); exact HO112.out) (Kd.R_base ho0) hb); replace HB := Aside0.mk (below_step xB hb); (try clear hb); (try clear hb2); (try clear hk); (try clear hi); (try clear ho0)))
   go_loopg [9] kj3 (fun kq v9 w' => ∃ (x9_2 : Int), v9 = .int .i64 x9_2 ∧ Aside0 (armadalaw17_MvsFewer.l0 kq a2 t110 t116 x9_2 = some r) ∧ Aside0 (kq ≤ kj3) ∧ Aside0 (Kd.R k27 27 w' w.heap.size (fun k_ => some k_ ≠ (v117 : Value).ownBlock) v111 t110) ∧ Aside0 (Kd.R k27 27 w' w.heap.size (fun k_ => some k_ ≠ (v111 : Value).ownBlock) v117 t116) ∧ Aside0 (Below w.heap.size w w'))
   case atStart => exact ⟨(0), xR, H', ⟨Nat.le_refl _⟩, ⟨by (with_reducible repeat (first | apply Kd.R_alloc | apply Kd.R_drewN | apply Kd.R_drew)); exact Kd.R_mono HO112.out (fun _ hk => hk.2)⟩, ⟨by (with_reducible repeat (first | apply Kd.R_alloc | apply Kd.R_drewN | apply Kd.R_drew)); exact Kd.R_mono HO118.out (fun _ hk => hk.2)⟩, ⟨xB⟩⟩
   case round =>
    clear H'
    try clear c1
    try clear p2
    try clear q2
    try clear c6
    try clear c7
    try clear c7b0
    try clear c10
    try clear c11
    try clear c12
    try clear c13
    try clear c14
    try clear c14b0
    try clear c14b1
    try clear c15
    try clear c15b0
    try clear c15b1
    try clear c17
    try clear q21
    try clear p2
    try clear q21
    obtain ⟨x9_2, rfl, HA, HK2, HO_7, HO_8, HB⟩ := hrel
    cases gk with
    | zero => exact absurd HA.out (by simp [armadalaw17_MvsFewer.l0])
    | succ k2 =>
     have H := HA.out
     clear HA
     simp only [armadalaw17_MvsFewer.l0] at H
     by_cases c28 : x9_2 < (t110.length : Int)
     ·
      rw [if_pos c28] at H
      have c28b0 := decide_eq_true c28
      clear c28
      replace H := xI H
      obtain ⟨c29, H⟩ := H
      have c29b0 := decide_eq_true c29
      clear c29
      replace H := xb H
      obtain ⟨t120, A30, H⟩ := H
      by_cases c31 : t120 = true
      ·
       subst c31
       rw [if_pos rfl] at H
       have H' := Aside0.mk H
       clear H
       obtain ⟨Ao32, co32, eo32⟩ := Kd.R_slice HO_7.out
       subst eo32
       have p119 : 0 ≤ (x9_2 : Int) := xD
       have q119 : x9_2 < (t110.length : Int) := xD
       obtain ⟨ad119, e119, hx119_0, hx119_1, hx119_2, hx119_3, hx119_4, hx119_5⟩ := at_T27 (Kd.R_reads' HO_7.out).2.2 x9_2 p119 q119
       cases e119
       replace p119 := eq_true p119
       replace q119 := eq_true q119
       obtain ⟨Ao33, co33, eo33⟩ := Kd.R_slice HO_8.out
       subst eo33
       go_wp2_with (first | ((with_reducible refine gate_callee (f := 24) rfl ?_); refine goesL_ (some 46) rfl rfl Tryz.func24 (by kernel_rfl) rfl #[.slice Ao33 t116.length co33, .agg #[.string ((rd_T27 t110 x9_2).f0), .int .i64 ((rd_T27 t110 x9_2).f1.f0), .int .i64 ((rd_T27 t110 x9_2).f1.f1), .int .i64 ((rd_T27 t110 x9_2).f1.f2), .string ((rd_T27 t110 x9_2).f1.f3), .string ((rd_T27 t110 x9_2).f1.f4)]] rfl xS ?_; (with_reducible refine (armadalaw17_covers.calls k2 _ _ t116 ((rd_T27 t110 x9_2).f0) ((rd_T27 t110 x9_2).f1.f0) ((rd_T27 t110 x9_2).f1.f1) ((rd_T27 t110 x9_2).f1.f2) ((rd_T27 t110 x9_2).f1.f3) ((rd_T27 t110 x9_2).f1.f4) true _ ?side1 ?side2 A30.out).mono ?_); (case side1 => repeat (first | exact (Kd.R_reads' HO_8.out).2.2 | (with_reducible refine Kd.C_alloc ?_ _) | (with_reducible refine Kd.C_drewN ?_ _) | (with_reducible refine Kd.C_drew ?_))); (case side2 => exact (Kd.R_reads' HO_8.out).2.1); rintro e w34 ⟨rfl, hb⟩; refine ⟨_, rfl, ?_⟩; replace HO_7 := Aside0.mk (Kd.R_below (by (with_reducible repeat (first | apply Kd.R_alloc | apply Kd.R_drewN | apply Kd.R_drew)); exact HO_7.out) hb); replace HO_8 := Aside0.mk (Kd.R_below (by (with_reducible repeat (first | apply Kd.R_alloc | apply Kd.R_drewN | apply Kd.R_drew)); exact HO_8.out) hb); replace HB := Aside0.mk (below_step xB hb); (try clear hb); (try clear hb2); (try clear hk); (try clear hi)))
       go_roundg k2
       case measure => have := HJ3.out; have := HK2.out; omega
       case rel => exact ⟨(wrap64 (x9_2 + 1)), xR, H', ⟨by have := HJ3.out; have := HK2.out; omega⟩, ⟨by (with_reducible repeat (first | apply Kd.R_alloc | apply Kd.R_drewN | apply Kd.R_drew)); exact HO_7.out⟩, ⟨by (with_reducible repeat (first | apply Kd.R_alloc | apply Kd.R_drewN | apply Kd.R_drew)); exact HO_8.out⟩, ⟨xB⟩⟩
      replace c31 := Bool.eq_false_iff.mpr c31
      subst c31
      rw [if_neg (show ¬ (false = true) by decide)] at H
      exact absurd ((Option.some.inj H).trans HTRU_.out) (by decide)
     rw [if_neg c28] at H
     have c28b0 := decide_eq_false c28
     clear c28
     by_cases c35 : (t110.length : Int) ≤ (t116.length : Int)
     ·
      rw [if_pos c35] at H
      have c35b0 := decide_eq_true c35
      have c35b1 : decide (t110.length ≤ t116.length) = true := decide_eq_true (Int.ofNat_le.mp c35)
      clear c35
      by_cases c36 : a2 > 0
      ·
       rw [if_pos c36] at H
       have c36b0 := decide_eq_true c36
       clear c36
       replace H := xb H
       obtain ⟨t121, A37, H⟩ := H
       obtain rfl := Option.some.inj H
       obtain ⟨Ao38, co38, eo38⟩ := Kd.R_slice HO_7.out
       subst eo38
       obtain ⟨Ao39, co39, eo39⟩ := Kd.R_slice HO_8.out
       subst eo39
       go_wp2_with (first | (go_at_call 12; (with_reducible refine (armadalaw17_live.calls  t121 _ ?side1 ?side2 A37.out).mono ?_); (case side1 => exact GW.below HGW.out xB); (case side2 => exact HTRU_.out); rintro e w40 ⟨rfl, hb⟩; replace HO_7 := Aside0.mk (Kd.R_below (by (with_reducible repeat (first | apply Kd.R_alloc | apply Kd.R_drewN | apply Kd.R_drew)); exact HO_7.out) hb); replace HO_8 := Aside0.mk (Kd.R_below (by (with_reducible repeat (first | apply Kd.R_alloc | apply Kd.R_drewN | apply Kd.R_drew)); exact HO_8.out) hb); replace HB := Aside0.mk (below_step xB hb); (try clear hb); (try clear hb2); (try clear hk); (try clear hi)))
       go_ret
       exact ⟨by first | rfl | (simp [errW_none, errW_some] <;> rfl) | (simp [*, errW_none, errW_some] <;> rfl) | (simp [isEmpty_bne]; done), xB⟩
      rw [if_neg c36] at H
      have c36b0 := decide_eq_false c36
      clear c36
      by_cases c41 : (t110.length : Int) = 0
      ·
       rw [if_pos c41] at H
       have c41b0 := beq_iff_eq.mpr c41
       have c41b1 := bne_eq_false_iff_eq.mpr c41
       clear c41
       replace H := xb H
       obtain ⟨t122, A42, H⟩ := H
       obtain rfl := Option.some.inj H
       obtain ⟨Ao43, co43, eo43⟩ := Kd.R_slice HO_7.out
       subst eo43
       obtain ⟨Ao44, co44, eo44⟩ := Kd.R_slice HO_8.out
       subst eo44
       go_wp2_with (first | (go_at_call 12; (with_reducible refine (armadalaw17_live.calls  t122 _ ?side1 ?side2 A42.out).mono ?_); (case side1 => exact GW.below HGW.out xB); (case side2 => exact HTRU_.out); rintro e w45 ⟨rfl, hb⟩; replace HO_7 := Aside0.mk (Kd.R_below (by (with_reducible repeat (first | apply Kd.R_alloc | apply Kd.R_drewN | apply Kd.R_drew)); exact HO_7.out) hb); replace HO_8 := Aside0.mk (Kd.R_below (by (with_reducible repeat (first | apply Kd.R_alloc | apply Kd.R_drewN | apply Kd.R_drew)); exact HO_8.out) hb); replace HB := Aside0.mk (below_step xB hb); (try clear hb); (try clear hb2); (try clear hk); (try clear hi)))
       go_ret
       exact ⟨by first | rfl | (simp [errW_none, errW_some] <;> rfl) | (simp [*, errW_none, errW_some] <;> rfl) | (simp [isEmpty_bne]; done), xB⟩
      rw [if_neg c41] at H
      have c41b0 := beq_eq_false_iff_ne.mpr c41
      have c41b1 := bne_iff_ne.mpr c41
      have c41b2 : ¬ (t110 = []) := fun h_ => c41 (by rw [h_]; rfl)
      exact absurd ((Option.some.inj H).trans HTRU_.out) (by decide)
     rw [if_neg c35] at H
     have c35b0 := decide_eq_false c35
     have c35b1 : decide (t110.length ≤ t116.length) = false := decide_eq_false (fun h => c35 (Int.ofNat_le.mpr h))
     clear c35
     exact absurd ((Option.some.inj H).trans HTRU_.out) (by decide)
end Go.Proofs.YtkidfclnakbgiaaGreatDoor.LFewer
end

section
namespace Go.Proofs.YtkidfclnakbgiaaGreatDoor.LFewer
open Go.RowKit Go.Proofs.YtkidfclnakbgiaaGreatDoor Go.Proofs.YtkidfclnakbgiaaGreatDoor.K0 Go.Proofs.YtkidfclnakbgiaaGreatDoor.RD Go.Proofs.YtkidfclnakbgiaaGreatDoor.RO Go.Proofs.YtkidfclnakbgiaaGreatDoor.RS Go.Proofs.YtkidfclnakbgiaaGreatDoorW.PrintWords Go.Proofs.YtkidfclnakbgiaaGreatDoorW.PrintLast Go.Proofs.YtkidfclnakbgiaaGreatDoorW.PrintMore
attribute [local go_sem] max2_int min2_int max_two min_two max_three min_three max_four min_four
set_option linter.unusedVariables false
set_option linter.unusedSimpArgs false
end Go.Proofs.YtkidfclnakbgiaaGreatDoor.LFewer
end

section
namespace Go.Proofs.YtkidfclnakbgiaaGreatDoor
open Go Go.RowKit Go.Proofs Go.Proofs.YtkidfclnakbgiaaGreatDoorW.PrintWords Go.Proofs.YtkidfclnakbgiaaGreatDoor.K0 Go.Proofs.YtkidfclnakbgiaaGreatDoor.RD Go.Proofs.YtkidfclnakbgiaaGreatDoor.RS Go.Proofs.YtkidfclnakbgiaaGreatDoor.RO Go.Proofs.YtkidfclnakbgiaaGreatDoor.LFewer
set_option linter.unusedVariables false
set_option linter.unusedSimpArgs false
theorem fewer_l0 (root : List Rq) (l : List NdR) (c : Nat) (hc : c ≤ root.length) (S : IsSmall root l) : Ev (fun k => armadalaw17_MvsFewer.l0 k (c : Int) (mv.list (root.take c) (l.map ndR)) (mv.list root (l.map ndR)) 0) true := by
  have hx := list_len (root.take c) (l.map ndR)
  have hy := list_len root (l.map ndR)
  rw [List.length_take] at hx
  have h1 := S.rl; have h2 := S.fl
  have hle := Mv.fewer_len mv_good (a := root.take c) (b := root) (l := l.map ndR) fun x hx => List.mem_of_mem_take hx
  refine ev_from (mv.list (root.take c) (l.map ndR)).length (fun k n => armadalaw17_MvsFewer.l0 k (c : Int) (mv.list (root.take c) (l.map ndR)) (mv.list root (l.map ndR)) (n : Int)) (fun _ => true) ?_ ?_ 0 (Nat.zero_le _)
  · refine ev_succ ?_
    simp only [armadalaw17_MvsFewer.l0, Int.lt_irrefl, if_false, if_pos (show ((mv.list (root.take c) (l.map ndR)).length : Int) ≤ ((mv.list root (l.map ndR)).length : Int) from by omega)]
    by_cases h0 : (c : Int) > 0
    · simp only [if_pos h0]; exact live_ev
    · have : c = 0 := by omega
      subst this
      have e : mv.list (root.take 0) (l.map ndR) = [] := Mv.none_list mv_good _
      simp only [if_neg h0, if_pos (show ((mv.list (root.take 0) (l.map ndR)).length : Int) = 0 from by rw [e]; rfl)]
      exact live_ev
  · intro n hn h
    obtain ⟨x, e1, e2, e3⟩ := rdR_at hn
    refine ev_succ ?_
    simp only [armadalaw17_MvsFewer.l0, if_pos (show (n : Int) < ((mv.list (root.take c) (l.map ndR)).length : Int) from by omega), if_pos (show (0 : Int) ≤ (n : Int) from by omega), e1, wrap_s (show n < 9223372036854775807 by omega)]
    refine Ev.bind (ev_eq (covers_f (mv.list root (l.map ndR)) x (by omega)) (Mv.roots_covers (b := []) mv_good (fun y hy => List.mem_of_mem_take hy) (List.mem_of_getElem? e3))) ?_
    simp only [if_true]
    exact h
theorem fewer_j0 (root : List Rq) (l : List NdR) (a : Int) : Ev (fun k => armadalaw17_MvsFewer.j0 k root l a true) true := by
  refine ev_succ ?_
  simp only [armadalaw17_MvsFewer.j0, if_true]
  exact live_ev
theorem fewer_ev (root : List Rq) (l : List NdR) (a : Int) (hl : root.length ≤ 9223372036854775807) (hl1 : l.length ≤ 9223372036854775807) (hi : ∀ x ∈ l, x.f1.length ≤ 9223372036854775807) : Ev (fun k => armadalaw17_MvsFewer.f k root l a) true := by
  unfold armadalaw17_MvsFewer.f
  refine Ev.bind (small_f root l hl hl1 hi) ?_
  cases hs : smallB root l
  · simp only [Bool.false_eq_true, if_false]; exact fewer_j0 root l a
  · have S := small_is hs
    have h1 := S.rl; have h2 := S.fl; have h3 := S.ll
    simp only [if_true]
    by_cases ha : a < 0
    · simp only [if_pos ha]; exact fewer_j0 root l a
    · simp only [if_neg ha]
      by_cases hb : a > (root.length : Int)
      · simp only [decide_eq_true hb]; exact fewer_j0 root l a
      · simp only [decide_eq_false hb]
        obtain ⟨c, rfl⟩ : ∃ c : Nat, a = (c : Int) := ⟨a.toNat, by omega⟩
        refine ev_succ ?_
        simp only [armadalaw17_MvsFewer.j0, Bool.false_eq_true, if_false, if_pos (show (0 : Int) ≤ (c : Int) from by omega), if_pos (show (c : Int) ≤ (root.length : Int) from by omega), Int.toNat_natCast]
        refine Ev.bind (own_f l (by omega)) ?_
        refine Ev.bind (list_f (a := root.take c) (l := l) (by rw [List.length_take]; omega)) ?_
        refine Ev.bind (own_f l (by omega)) ?_
        refine Ev.bind (list_f (a := root) (l := l) (by omega)) ?_
        exact fewer_l0 root l c (by omega) S
theorem fewer_pure (root : List Rq) (l : List NdR) (a : Int) (hl : root.length ≤ 9223372036854775807) (hl1 : l.length ≤ 9223372036854775807) (hi : ∀ x ∈ l, x.f1.length ≤ 9223372036854775807) : ∃ k, armadalaw17_MvsFewer.f k root l a = some true := (fewer_ev root l a hl hl1 hi).rounds
end Go.Proofs.YtkidfclnakbgiaaGreatDoor
end

section
namespace Go.Proofs.YtkidfclnakbgiaaGreatDoor
open Go Go.ChangeShapes Go.WideShapes Go.ChangeAt Go.RowKit Go.Joins Go.Deep Go.Proofs.YtkidfclnakbgiaaGreatDoor.LFewer
set_option linter.unusedVariables false
set_option maxRecDepth 100000 in
theorem mvsFewer_lifted (os : Os) (started : os.Started) (H : Type) (enc : TypeId × Value → H) :
    ReturnsInHanded {} Tryz.checked os 10 .any (fun w args => (Rows.mvsFewerSpec.pre enc Tryz.prog Tryz.f10 Rows.mvsFewerRow.domain false w args ∧ laidMetH Tryz.prog Rows.mvsFewerRow.laid w) ∧ sizedMet enc Tryz.prog Tryz.f10 (OpenSpec.ofChange Rows.mvsFewerSpec) false w args)
      (Rows.mvsFewerSpec.post enc Tryz.prog Tryz.f10 false true false false) := by
  refine lifted_of (C := Tryz.checked) (tb := 4) laidOut rfl own started (by kernel_rfl) Tryz.func10 (by kernel_rfl) (by kernel_rfl) Tryz.underlying4 ?_
    (ChangeSpec.witness_shaped (enc := enc) (C := Tryz.checked) (os := os) (X := fun w _ => laidMetH Tryz.prog Rows.mvsFewerRow.laid w) false (World.laidAll Tryz.prog os Rows.mvsFewerRow.laid) #[.slice none 0 0, .slice none 0 0, .int .i64 0] 8 (World.laidAll_os _ _ _)
      (World.shaped_of_ZipB (by kernel_rfl) (by kernel_rfl)) (by kernel_rfl) (by kernel_rfl) (by kernel_rfl)
      (by rw [MakeChecks.laidMetH_plain _ _ _ (by kernel_rfl)]; exact laidMet_laidAll _ (by kernel_rfl) (by kernel_rfl))) ?_
  · intro ds hd
    match ds, hd.trans (show Tryz.f10.params.size = 3 by kernel_rfl) with
    | [_, _, _], _ => rfl
  · intro W base args ds ps hval0 hA0 hz hsh hL
    have hval : ∀ (j : Nat) t v, Tryz.f10.params[j]? = some t → args[j]? = some v → Value.okWide Tryz.prog W .any base t v := hval0
    have hA : DataW.TrodAll enc Tryz.prog W 0 (fun _ => true) true Tryz.f10.params.toList args.toList ds ps := hA0
    rw [Tryz.params10] at hA hval
    obtain ⟨v0, v1, v2, d0, d1, d2, p0, p1, p2, rfl, rfl, rfl, h0, h1, h2⟩ := trodAll_three hA
    obtain ⟨A0, c0, x0, rfl, hc0, hr0⟩ := arg_reqs (hval 0 22 v0 rfl rfl) h0
    obtain ⟨A1, c1, x1, rfl, hc1, hr1⟩ := arg_nodes (hval 1 23 v1 rfl rfl) h1
    obtain ⟨x2, rfl, rfl, rfl, _⟩ := open_int Tryz.underlying3 (hval 2 3 v2 rfl rfl) h2
    obtain ⟨k, hk⟩ := fewer_pure x0 x1 x2 hr0.2.1 hr1.2.1 (nodes_short hr1)
    exact armadalaw17_MvsFewer.calls k A0 c0 x0 A1 c1 x1 x2 true W hr0 hc0 hr1 hc1 (gw_of hsh hL) rfl hk
theorem mvsFewer_holds : Rows.MvsFewerSaid :=
  OpenClaim.holds_of_wide 10 Tryz.f10 rfl rfl rfl rfl rfl rfl rfl ⟨rfl, rfl, rfl, rfl, rfl⟩ rfl rfl rfl rfl rfl (by kernel_rfl) Tryz.func10 (by kernel_rfl)
    (of_decide_eq_true (by kernel_rfl)) (by unfold Func.isWrapper; first | (rw [if_pos (by decide +kernel)]; kernel_rfl) | (rw [if_neg (by decide +kernel)]; exact ⟨rfl, rfl⟩))
    (fun os started H enc _ => mvsFewer_lifted os started H enc)
theorem mvsFewer_card : Rows.MvsFewerCardSaid :=
  Claim7.holds_tied_plain_at .later [] [.data, .data, .data, .data, .sentinel, .sentinel, .pinned] true (true, "5949cf66e13fd1f391be309675234d90056db7f2d948a31634a7fe3da95e5fd9") true mvsFewer_holds (fun _ h => by cases h) (by kernel_rfl) (fun _ h => by cases h) mvsFewer_row_tie rfl ⟨rfl, rfl⟩ (by kernel_rfl) rfl
    (fun f fn hf hfn => by
      obtain rfl : f = 10 := Option.some.inj ((show Tryz.prog.funcNamed "armada/armadalaw17.MvsFewer" = some 10 by kernel_rfl).symm.trans hf) |>.symm
      obtain rfl : fn = Tryz.f10 := (Option.some.inj (Tryz.func10.symm.trans hfn)).symm
      exact ⟨by kernel_rfl, fun j t ht => by
        rw [Tryz.params10] at ht
        have hm : t ∈ [22, 23, 3] := by simpa using Array.mem_of_getElem? ht
        have hall : ([22, 23, 3].all fun u => !Tryz.prog.wantsStandIn u) = true := by kernel_rfl
        exact (show Tryz.prog.wantsStandIn t = false by simpa using List.all_eq_true.1 hall t hm)⟩)
    (by kernel_rfl)
#print axioms mvsFewer_card
end Go.Proofs.YtkidfclnakbgiaaGreatDoor
end
