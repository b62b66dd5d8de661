/- The texts MnAs in one file, without what these claims do not use (put together by prune2.py). -/
import Derived.Test.YtmbpefnhkimplaaGreatDoorZE33
import Derived.LaidEql
import Derived.Stop.Asserts
import Derived.RowKitTokens
section
namespace Go.Proofs.YtmbpefnhkimplaaGreatDoor
open Go Go.RowKit Go.Sort Go.Maps Go.Proofs Go.Extern.Stop Go.Stop Go.Extern Go.Proofs.YtmbpefnhkimplaaGreatDoorW.PrintWords Go.Proofs.YtmbpefnhkimplaaGreatDoorW.PrintLast Go.Proofs.YtmbpefnhkimplaaGreatDoor.K0
set_option linter.unusedVariables false
set_option linter.unusedSimpArgs false
abbrev plv (k er : Int) : Array Value := #[.int .i64 k, .iface 136 (.agg #[.int .i64 er])]
abbrev tyv (t : Nat) : Value := .pointer (some ⟨9, t, none⟩)
abbrev rtyv (t : Nat) : Value := .iface 198 (.agg #[tyv t])
theorem rf_valueOfP (t : Addr) (w : World) : (ReflectliteValue.unpack (.iface 144 (.pointer (some t)))).run Tryz.prog w = .ok (.agg #[tyv 144, .pointer (some ⟨w.heap.size, 0, none⟩), .int .u64 150]) (w.alloc (.cells #[.pointer (some t)] 144)) := by kernel_rfl
theorem rf_valueOfF (t : Addr) (w : World) : (ReflectliteValue.unpack (.iface 145 (.pointer (some t)))).run Tryz.prog w = .ok (.agg #[tyv 145, .pointer (some ⟨w.heap.size, 0, none⟩), .int .u64 150]) (w.alloc (.cells #[.pointer (some t)] 145)) := by kernel_rfl
theorem rf_valueOfp (k er : Int) (w : World) : (ReflectliteValue.unpack (.iface 138 (.agg (plv k er)))).run Tryz.prog w = .ok (.agg #[tyv 138, .pointer (some ⟨w.heap.size, 0, none⟩), .int .u64 153]) (w.alloc (.cells (plv k er) 138)) := by kernel_rfl
theorem rf_valueOff (er : Int) (w : World) : (ReflectliteValue.unpack (.iface 136 (.agg #[.int .i64 er]))).run Tryz.prog w = .ok (.agg #[tyv 136, .pointer (some ⟨w.heap.size, 0, none⟩), .int .u64 153]) (w.alloc (.cells #[.int .i64 er] 136)) := by kernel_rfl
theorem rf_typeP (a : Addr) (w : World) : (ReflectliteValue.methodAny (ReflectliteValue.valueError "reflectlite.Value.Type" 0) (fun t _ _ _ => ReflectliteType.toType t) #[.agg #[tyv 144, .pointer (some a), .int .u64 150]]).run Tryz.prog w = .ok (rtyv 144) w := by kernel_rfl
theorem rf_typeF (a : Addr) (w : World) : (ReflectliteValue.methodAny (ReflectliteValue.valueError "reflectlite.Value.Type" 0) (fun t _ _ _ => ReflectliteType.toType t) #[.agg #[tyv 145, .pointer (some a), .int .u64 150]]).run Tryz.prog w = .ok (rtyv 145) w := by kernel_rfl
theorem rf_kindP (w : World) : ((ReflectliteType.abiMethod fun t => (fun a : Nat => Value.int IntKind.u8 (a : Int)) <$> Rtype.kind t) #[tyv 144]).run Tryz.prog w = .ok (.int .u8 22) w := by kernel_rfl
theorem rf_kindF (w : World) : ((ReflectliteType.abiMethod fun t => (fun a : Nat => Value.int IntKind.u8 (a : Int)) <$> Rtype.kind t) #[tyv 145]).run Tryz.prog w = .ok (.int .u8 22) w := by kernel_rfl
theorem rf_kindp (w : World) : ((ReflectliteType.abiMethod fun t => (fun a : Nat => Value.int IntKind.u8 (a : Int)) <$> Rtype.kind t) #[tyv 138]).run Tryz.prog w = .ok (.int .u8 25) w := by kernel_rfl
theorem rf_kindf (w : World) : ((ReflectliteType.abiMethod fun t => (fun a : Nat => Value.int IntKind.u8 (a : Int)) <$> Rtype.kind t) #[tyv 136]).run Tryz.prog w = .ok (.int .u8 25) w := by kernel_rfl
theorem rf_m (z : Sem Value) (f : TypeId → Addr → Nat → Nat → Sem Value) (v : Value) :
    ReflectliteValue.method z f #[v] = (do match ← ReflectliteValue.parts v with | none => z | some (t, a, fl) => f t a fl (fl % 32)) := rfl
theorem rf_partsP (a : Addr) (w : World) : (ReflectliteValue.parts (.agg #[tyv 144, .pointer (some a), .int .u64 150])).run Tryz.prog w = .ok (some (144, a, 150)) w := by kernel_rfl
theorem rf_partsF (a : Addr) (w : World) : (ReflectliteValue.parts (.agg #[tyv 145, .pointer (some a), .int .u64 150])).run Tryz.prog w = .ok (some (145, a, 150)) w := by kernel_rfl
theorem rf_undP : Tryz.prog.underlying 144 = some (.pointer 138) := by kernel_rfl
theorem rf_undF : Tryz.prog.underlying 145 = some (.pointer 136) := by kernel_rfl
theorem rf_isNilP (a p : Addr) (W : World) (ha : W.cell? a = some (.pointer (some p))) :
    (ReflectliteValue.method (ReflectliteValue.valueError "reflectlite.Value.IsNil" 0) ReflectliteValue.isNil #[.agg #[tyv 144, .pointer (some a), .int .u64 150]]).run Tryz.prog W = .ok (.bool false) W := by
  rw [rf_m]
  simp only [Sem.run_bind, rf_partsP, Result.andThen]
  simp [ReflectliteValue.isNil, loadVar, isAgg, underlying, rf_undP, ha, Result.andThen]
theorem rf_isNilF (a p : Addr) (W : World) (ha : W.cell? a = some (.pointer (some p))) :
    (ReflectliteValue.method (ReflectliteValue.valueError "reflectlite.Value.IsNil" 0) ReflectliteValue.isNil #[.agg #[tyv 145, .pointer (some a), .int .u64 150]]).run Tryz.prog W = .ok (.bool false) W := by
  rw [rf_m]
  simp only [Sem.run_bind, rf_partsF, Result.andThen]
  simp [ReflectliteValue.isNil, loadVar, isAgg, underlying, rf_undF, ha, Result.andThen]
theorem rf_elemP (w : World) : (ReflectliteType.method ReflectliteType.elem #[.agg #[tyv 144]]).run Tryz.prog w = .ok (rtyv 138) w := by kernel_rfl
theorem rf_elemF (w : World) : (ReflectliteType.method ReflectliteType.elem #[.agg #[tyv 145]]).run Tryz.prog w = .ok (rtyv 136) w := by kernel_rfl
theorem rf_implp (w : World) : (ReflectliteType.relation "Implements" ReflectliteType.implements_ #[.agg #[tyv 138], rtyv 95]).run Tryz.prog w = .ok (.bool true) w := by kernel_rfl
theorem rf_implf (w : World) : (ReflectliteType.relation "Implements" ReflectliteType.implements_ #[.agg #[tyv 136], rtyv 95]).run Tryz.prog w = .ok (.bool true) w := by kernel_rfl
theorem rf_typeOfp (v : Value) (w : World) : (ReflectliteType.typeOf #[.iface 138 v]).run Tryz.prog w = .ok (rtyv 138) w := by kernel_rfl
theorem rf_typeOff (v : Value) (w : World) : (ReflectliteType.typeOf #[.iface 136 v]).run Tryz.prog w = .ok (rtyv 136) w := by kernel_rfl
theorem rf_asgpp (w : World) : (ReflectliteType.relation "AssignableTo" ReflectliteType.assignableTo #[.agg #[tyv 138], rtyv 138]).run Tryz.prog w = .ok (.bool true) w := by kernel_rfl
theorem rf_asgff (w : World) : (ReflectliteType.relation "AssignableTo" ReflectliteType.assignableTo #[.agg #[tyv 136], rtyv 136]).run Tryz.prog w = .ok (.bool true) w := by kernel_rfl
theorem rf_asgpf (w : World) : (ReflectliteType.relation "AssignableTo" ReflectliteType.assignableTo #[.agg #[tyv 138], rtyv 136]).run Tryz.prog w = .ok (.bool false) w := by kernel_rfl
theorem rf_elemOfP (w : World) : (Rtype.elem? 144).run Tryz.prog w = .ok (some 138) w := by kernel_rfl
theorem rf_elemOfF (w : World) : (Rtype.elem? 145).run Tryz.prog w = .ok (some 136) w := by kernel_rfl
theorem rf_mkp (p : Addr) (w : World) : (ReflectliteValue.mk 138 p ReflectliteValue.flagAddr).run Tryz.prog w = .ok (.agg #[tyv 138, .pointer (some p), .int .u64 409]) w := by kernel_rfl
theorem rf_mkf (p : Addr) (w : World) : (ReflectliteValue.mk 136 p ReflectliteValue.flagAddr).run Tryz.prog w = .ok (.agg #[tyv 136, .pointer (some p), .int .u64 409]) w := by kernel_rfl
theorem rf_elemVP (a p : Addr) (W : World) (ha : W.cell? a = some (.pointer (some p))) :
    (ReflectliteValue.method (ReflectliteValue.valueError "reflectlite.Value.Elem" 0) ReflectliteValue.elem #[.agg #[tyv 144, .pointer (some a), .int .u64 150]]).run Tryz.prog W = .ok (.agg #[tyv 138, .pointer (some p), .int .u64 409]) W := by
  rw [rf_m]
  simp only [Sem.run_bind, rf_partsP, Result.andThen]
  simp [ReflectliteValue.elem, loadVar, isAgg, underlying, rf_undP, ha, Result.andThen, rf_elemOfP, rf_mkp]
theorem rf_elemVF (a p : Addr) (W : World) (ha : W.cell? a = some (.pointer (some p))) :
    (ReflectliteValue.method (ReflectliteValue.valueError "reflectlite.Value.Elem" 0) ReflectliteValue.elem #[.agg #[tyv 145, .pointer (some a), .int .u64 150]]).run Tryz.prog W = .ok (.agg #[tyv 136, .pointer (some p), .int .u64 409]) W := by
  rw [rf_m]
  simp only [Sem.run_bind, rf_partsF, Result.andThen]
  simp [ReflectliteValue.elem, loadVar, isAgg, underlying, rf_undF, ha, Result.andThen, rf_elemOfF, rf_mkf]
theorem rf_set (v x : Value) : ReflectliteValue.set #[v, x] = (do
    let (some (dst, a, fl), some (src, b, _)) := (← ReflectliteValue.parts v, ← ReflectliteValue.parts x)
      | unsupported (.noEntry "extern/(internal/reflectlite.Value).Set.zeroValue")
    if fl / ReflectliteValue.flagAddr % 2 == 0 then unsupported (.noEntry "extern/(internal/reflectlite.Value).Set.unaddressable")
    let val ← loadVar src b
    if ← Rtype.directlyAssignable dst src then storeVar dst a val
    else if ← Rtype.implements dst src then
      if (← Rtype.kind src) == 20 then
        match val with
        | .nilIface => unsupported (.noEntry "extern/reflectlite: a nil value of one interface type handed on as a value of another")
        | _ => storeVar dst a val
      else storeVar dst a (.iface src val)
    else panicString ("reflectlite.Set: value of type " ++ (← Rtype.spelt src) ++ " is not assignable to type " ++ (← Rtype.spelt dst))
    pure (.tuple #[])) := rfl
theorem rf_parts1 (a : Addr) (w : World) : (ReflectliteValue.parts (.agg #[tyv 138, .pointer (some a), .int .u64 409])).run Tryz.prog w = .ok (some (138, a, 409)) w := by kernel_rfl
theorem rf_parts2 (a : Addr) (w : World) : (ReflectliteValue.parts (.agg #[tyv 138, .pointer (some a), .int .u64 153])).run Tryz.prog w = .ok (some (138, a, 153)) w := by kernel_rfl
theorem rf_parts3 (a : Addr) (w : World) : (ReflectliteValue.parts (.agg #[tyv 136, .pointer (some a), .int .u64 409])).run Tryz.prog w = .ok (some (136, a, 409)) w := by kernel_rfl
theorem rf_parts4 (a : Addr) (w : World) : (ReflectliteValue.parts (.agg #[tyv 136, .pointer (some a), .int .u64 153])).run Tryz.prog w = .ok (some (136, a, 153)) w := by kernel_rfl
theorem rf_dirp (w : World) : (Rtype.directlyAssignable 138 138).run Tryz.prog w = .ok true w := by kernel_rfl
theorem rf_dirf (w : World) : (Rtype.directlyAssignable 136 136).run Tryz.prog w = .ok true w := by kernel_rfl
set_option maxRecDepth 100000 in
set_option maxRecDepth 100000 in
set_option maxRecDepth 100000 in
set_option maxRecDepth 100000 in
set_option maxRecDepth 100000 in
set_option maxRecDepth 100000 in
theorem rf_setp (tb b : Nat) (k er : Int) (old : Array Value) (W : World) (hb : W.heap[b]? = some (.cells (plv k er) 138 (0, 0))) (ht : W.heap[tb]? = some (.cells old 138 (0, 0))) (ho : old.size = 2) :
    ∃ W', (ReflectliteValue.set #[.agg #[tyv 138, .pointer (some ⟨tb, 0, none⟩), .int .u64 409], .agg #[tyv 138, .pointer (some ⟨b, 0, none⟩), .int .u64 153]]).run Tryz.prog W = .ok (.tuple #[]) W' ∧ W'.heap[tb]? = some (.cells (plv k er) 138 (0, 0)) ∧ W.grownBy W' (some tb) := by
  have hl := run_loadVar_row (P := Tryz.prog) W b 138 138 (plv k er) (0, 0) _ hb (show Tryz.prog.underlying 138 = some _ from Tryz.underlying138) rfl (by kernel_rfl)
  have hst := run_store_run (P := Tryz.prog) (w := W) (o := 0) 138 (.agg (plv k er)) ((plv k er)).toList ht rfl (by kernel_rfl) (by rw [ho]; exact Nat.le_refl _) (by simp [Value.oneCell'])
  obtain ⟨cur', h2, h3, h4⟩ := setCells_row ((plv k er)).toList 0 W old ht (by rw [ho]; exact Nat.le_refl _)
  have hst' : (storeVar 138 ⟨tb, 0, none⟩ (.agg (plv k er))).run Tryz.prog W = .ok () (W.setCells tb 0 ((plv k er)).toList) := by
    have h := hst
    unfold Instr.storeAt at h
    simpa [Instr.sureAddr] using h
  refine ⟨W.setCells tb 0 ((plv k er)).toList, ?_, ?_, ?_⟩
  · rw [rf_set]
    simp only [Sem.run_bind, rf_parts1, rf_parts2, Result.andThen]
    simp [ReflectliteValue.flagAddr, hl, rf_dirp, hst', Result.andThen]
  · rw [h2]
    congr 2
    apply Array.ext'
    rw [h4]
    have : old.toList.drop 2 = [] := List.drop_of_length_le (by rw [Array.length_toList, ho]; decide)
    simp [this]
  · obtain ⟨s1, s2, s3, s4⟩ := setCells_same tb ((plv k er)).toList 0 W
    exact ⟨s1, s2, s3, by rw [s4]; exact Nat.le_refl _, fun j _ hj => setCells_far _ 0 j (fun e => hj (by rw [e]))⟩
set_option maxRecDepth 100000 in
set_option maxRecDepth 100000 in
set_option maxRecDepth 100000 in
set_option maxRecDepth 100000 in
set_option maxRecDepth 100000 in
set_option maxRecDepth 100000 in
theorem rf_setf (tb b : Nat) (er : Int) (old : Array Value) (W : World) (hb : W.heap[b]? = some (.cells #[.int .i64 er] 136 (0, 0))) (ht : W.heap[tb]? = some (.cells old 136 (0, 0))) (ho : old.size = 1) :
    ∃ W', (ReflectliteValue.set #[.agg #[tyv 136, .pointer (some ⟨tb, 0, none⟩), .int .u64 409], .agg #[tyv 136, .pointer (some ⟨b, 0, none⟩), .int .u64 153]]).run Tryz.prog W = .ok (.tuple #[]) W' ∧ W'.heap[tb]? = some (.cells #[.int .i64 er] 136 (0, 0)) ∧ W.grownBy W' (some tb) := by
  have hl := run_loadVar_row (P := Tryz.prog) W b 136 136 #[.int .i64 er] (0, 0) _ hb (show Tryz.prog.underlying 136 = some _ from Tryz.underlying136) rfl (by kernel_rfl)
  have hst := run_store_run (P := Tryz.prog) (w := W) (o := 0) 136 (.agg #[.int .i64 er]) (#[.int .i64 er]).toList ht rfl (by kernel_rfl) (by rw [ho]; exact Nat.le_refl _) (by simp [Value.oneCell'])
  obtain ⟨cur', h2, h3, h4⟩ := setCells_row (#[.int .i64 er]).toList 0 W old ht (by rw [ho]; exact Nat.le_refl _)
  have hst' : (storeVar 136 ⟨tb, 0, none⟩ (.agg #[.int .i64 er])).run Tryz.prog W = .ok () (W.setCells tb 0 (#[.int .i64 er]).toList) := by
    have h := hst
    unfold Instr.storeAt at h
    simpa [Instr.sureAddr] using h
  refine ⟨W.setCells tb 0 (#[.int .i64 er]).toList, ?_, ?_, ?_⟩
  · rw [rf_set]
    simp only [Sem.run_bind, rf_parts3, rf_parts4, Result.andThen]
    simp [ReflectliteValue.flagAddr, hl, rf_dirf, hst', Result.andThen]
  · rw [h2]
    congr 2
    apply Array.ext'
    rw [h4]
    have : old.toList.drop 1 = [] := List.drop_of_length_le (by rw [Array.length_toList, ho]; decide)
    simp [this]
  · obtain ⟨s1, s2, s3, s4⟩ := setCells_same tb (#[.int .i64 er]).toList 0 W
    exact ⟨s1, s2, s3, by rw [s4]; exact Nat.le_refl _, fun j _ hj => setCells_far _ 0 j (fun e => hj (by rw [e]))⟩
theorem unwrap_calls (k er : Int) (w : World) : Calls Tryz.prog 253 #[.agg (plv k er)] w fun e w' => e = .returned (fltV er) ∧ Below w.heap.size w w' := by
  go_enter Tryz.func253, Tryz.ntmps253
  go_wp2
  go_ret
  exact ⟨rfl, below_alloc (Below.refl _ _) _⟩
set_option maxRecDepth 100000 in
set_option maxHeartbeats 4000000 in
/-- errors.As of a place, at a place's pointer. -/
theorem as_place (k er : Int) (tb : Nat) (old : Array Value) (ho : old.size = 2) (w : World) (hG : GW w) (ht : w.heap[tb]? = some (.cells old 138 (0, 0))) :
    Calls Tryz.prog 78 #[.iface 138 (.agg (plv k er)), .iface 144 (.pointer (some ⟨tb, 0, none⟩))] w fun e w' => e = .returned (.bool true) ∧ w'.heap[tb]? = some (.cells (plv k er) 138 (0, 0)) ∧ w.grownBy w' (some tb) := by
  have h101 := @run_callFunc_extern Tryz.prog 101 _ (fun args => ReflectliteValue.unpack (args.getD 0 (.tuple #[]))) Tryz.func101 (by kernel_rfl) (by kernel_rfl) (by kernel_rfl) (by kernel_rfl)
  have h102 := @run_callFunc_extern Tryz.prog 102 _ (ReflectliteValue.methodAny (ReflectliteValue.valueError "reflectlite.Value.Type" 0) (fun t _ _ _ => ReflectliteType.toType t)) Tryz.func102 (by kernel_rfl) (by kernel_rfl) (by kernel_rfl) (by kernel_rfl)
  have h103 := @run_callFunc_extern Tryz.prog 103 _ (ReflectliteValue.method (ReflectliteValue.valueError "reflectlite.Value.IsNil" 0) ReflectliteValue.isNil) Tryz.func103 (by kernel_rfl) (by kernel_rfl) (by kernel_rfl) (by kernel_rfl)
  have h247 := @run_callFunc_extern Tryz.prog 247 _ (ReflectliteType.abiMethod fun t => do pure (.int .u8 (← Rtype.kind t))) Tryz.func247 (by kernel_rfl) (by kernel_rfl) (by kernel_rfl) (by kernel_rfl)
  have h260 := @run_callFunc_extern Tryz.prog 260 _ (ReflectliteType.method ReflectliteType.elem) Tryz.func260 (by kernel_rfl) (by kernel_rfl) (by kernel_rfl) (by kernel_rfl)
  have h261 := @run_callFunc_extern Tryz.prog 261 _ (ReflectliteType.relation "Implements" ReflectliteType.implements_) Tryz.func261 (by kernel_rfl) (by kernel_rfl) (by kernel_rfl) (by kernel_rfl)
  have h135 := @run_callFunc_extern Tryz.prog 135 _ ReflectliteType.typeOf Tryz.func135 (by kernel_rfl) (by kernel_rfl) (by kernel_rfl) (by kernel_rfl)
  have h258 := @run_callFunc_extern Tryz.prog 258 _ (ReflectliteType.relation "AssignableTo" ReflectliteType.assignableTo) Tryz.func258 (by kernel_rfl) (by kernel_rfl) (by kernel_rfl) (by kernel_rfl)
  have h136 := @run_callFunc_extern Tryz.prog 136 _ (ReflectliteValue.method (ReflectliteValue.valueError "reflectlite.Value.Elem" 0) ReflectliteValue.elem) Tryz.func136 (by kernel_rfl) (by kernel_rfl) (by kernel_rfl) (by kernel_rfl)
  have h137 := @run_callFunc_extern Tryz.prog 137 _ ReflectliteValue.set Tryz.func137 (by kernel_rfl) (by kernel_rfl) (by kernel_rfl) (by kernel_rfl)
  have mKind : ∀ (d : Nat) (h : Value) (w : World), (Go.method (d + 4) 198 (.agg #[h]) "Kind").run Tryz.prog w = .ok (247, h) w := fun _ _ _ => rfl
  have mElem : ∀ (d : Nat) (h : Value) (w : World), (Go.method (d + 4) 198 (.agg #[h]) "Elem").run Tryz.prog w = .ok (260, .agg #[h]) w := fun _ _ _ => rfl
  have mImplements : ∀ (d : Nat) (h : Value) (w : World), (Go.method (d + 4) 198 (.agg #[h]) "Implements").run Tryz.prog w = .ok (261, .agg #[h]) w := fun _ _ _ => rfl
  have mAssignableTo : ∀ (d : Nat) (h : Value) (w : World), (Go.method (d + 4) 198 (.agg #[h]) "AssignableTo").run Tryz.prog w = .ok (258, .agg #[h]) w := fun _ _ _ => rfl
  have hg0 : w.cell? ⟨1, 0, none⟩ = some (rtyv 95) := by
    have h := hG.errT
    rwa [show typeHandle Tryz.prog 95 = tyv 95 by kernel_rfl] at h
  have f6 := rf_valueOfP
  have f7 := rf_typeP
  have k1 := rf_kindP
  have k2 := rf_kindp
  have e1 := rf_elemP
  have i1 := rf_implp
  have t1 := rf_typeOfp
  have a1 := rf_asgpp
  have v1 := rf_valueOfp k er
  have htl := blk_lt ht
  have hb1 := below_alloc (Below.refl w.heap.size w) (.cells #[.pointer (some ⟨tb, 0, none⟩)] 144)
  have hb2 := below_alloc hb1 (.cells #[tyv 144, .pointer (some ⟨w.heap.size, 0, none⟩), .int .u64 150] 169)
  have hb3 := below_alloc hb2 (.cells #[tyv 144, .pointer (some ⟨w.heap.size, 0, none⟩), .int .u64 150] 169)
  have hv1 := heap_alloc_new w (.cells #[.pointer (some ⟨tb, 0, none⟩)] 144)
  have hv2 := blk_alloc hv1 (.cells #[tyv 144, .pointer (some ⟨w.heap.size, 0, none⟩), .int .u64 150] 169)
  have hv3 := blk_alloc hv2 (.cells #[tyv 144, .pointer (some ⟨w.heap.size, 0, none⟩), .int .u64 150] 169)
  have n8 := rf_isNilP ⟨w.heap.size, 0, none⟩ ⟨tb, 0, none⟩ ((w.alloc (.cells #[.pointer (some ⟨tb, 0, none⟩)] 144)).alloc (.cells #[tyv 144, .pointer (some ⟨w.heap.size, 0, none⟩), .int .u64 150] 169)) ((blk_cell hv2 0).trans rfl)
  have hg : ((w.alloc (.cells #[.pointer (some ⟨tb, 0, none⟩)] 144)).alloc (.cells #[tyv 144, .pointer (some ⟨w.heap.size, 0, none⟩), .int .u64 150] 169)).cell? ⟨1, 0, none⟩ = some (rtyv 95) := pw_cell_below hb2 hg0
  have HB3 := Aside0.mk hb3
  have HT := Aside0.mk ht
  have HV3 := Aside0.mk hv3
  clear ht hb1 hb2 hb3 hv1 hv2 hv3 hg0
  have el := rf_elemVP ⟨w.heap.size, 0, none⟩ ⟨tb, 0, none⟩ (((w.alloc (.cells #[.pointer (some ⟨tb, 0, none⟩)] 144)).alloc (.cells #[tyv 144, .pointer (some ⟨w.heap.size, 0, none⟩), .int .u64 150] 169)).alloc (.cells #[tyv 144, .pointer (some ⟨w.heap.size, 0, none⟩), .int .u64 150] 169)) ((blk_cell HV3.out 0).trans rfl)
  have hb4 := below_alloc HB3.out (.cells (plv k er) 138)
  have hv4 := heap_alloc_new (((w.alloc (.cells #[.pointer (some ⟨tb, 0, none⟩)] 144)).alloc (.cells #[tyv 144, .pointer (some ⟨w.heap.size, 0, none⟩), .int .u64 150] 169)).alloc (.cells #[tyv 144, .pointer (some ⟨w.heap.size, 0, none⟩), .int .u64 150] 169)) (.cells (plv k er) 138)
  rw [show (((w.alloc (.cells #[.pointer (some ⟨tb, 0, none⟩)] 144)).alloc (.cells #[tyv 144, .pointer (some ⟨w.heap.size, 0, none⟩), .int .u64 150] 169)).alloc (.cells #[tyv 144, .pointer (some ⟨w.heap.size, 0, none⟩), .int .u64 150] 169)).heap.size = w.heap.size + 1 + 1 + 1 by simp] at hv4
  obtain ⟨W', hset, hW', hgr⟩ := rf_setp tb (w.heap.size + 1 + 1 + 1) k er old ((((w.alloc (.cells #[.pointer (some ⟨tb, 0, none⟩)] 144)).alloc (.cells #[tyv 144, .pointer (some ⟨w.heap.size, 0, none⟩), .int .u64 150] 169)).alloc (.cells #[tyv 144, .pointer (some ⟨w.heap.size, 0, none⟩), .int .u64 150] 169)).alloc (.cells (plv k er) 138)) hv4 (blk_below HT.out hb4) ho
  have HW := Aside0.mk hW'
  have HGR := Aside0.mk ((grown_of_below hb4 (some tb)).trans hgr)
  clear hb4 hv4 hW' hgr
  go_enter Tryz.func78, Tryz.ntmps78
  go_wp2
  refine wp_loop_rounds 1 ?_
  rw [rounds_succ]
  go_wp2
  go_ret
  exact ⟨rfl, HW.out, HGR.out⟩
set_option maxRecDepth 100000 in
set_option maxHeartbeats 4000000 in
/-- errors.As of a place, at a fault's pointer. -/
theorem as_fault (k er : Int) (tb : Nat) (old : Array Value) (ho : old.size = 1) (w : World) (hG : GW w) (ht : w.heap[tb]? = some (.cells old 136 (0, 0))) :
    Calls Tryz.prog 78 #[.iface 138 (.agg (plv k er)), .iface 145 (.pointer (some ⟨tb, 0, none⟩))] w fun e w' => e = .returned (.bool true) ∧ w'.heap[tb]? = some (.cells #[.int .i64 er] 136 (0, 0)) ∧ w.grownBy w' (some tb) := by
  have h101 := @run_callFunc_extern Tryz.prog 101 _ (fun args => ReflectliteValue.unpack (args.getD 0 (.tuple #[]))) Tryz.func101 (by kernel_rfl) (by kernel_rfl) (by kernel_rfl) (by kernel_rfl)
  have h102 := @run_callFunc_extern Tryz.prog 102 _ (ReflectliteValue.methodAny (ReflectliteValue.valueError "reflectlite.Value.Type" 0) (fun t _ _ _ => ReflectliteType.toType t)) Tryz.func102 (by kernel_rfl) (by kernel_rfl) (by kernel_rfl) (by kernel_rfl)
  have h103 := @run_callFunc_extern Tryz.prog 103 _ (ReflectliteValue.method (ReflectliteValue.valueError "reflectlite.Value.IsNil" 0) ReflectliteValue.isNil) Tryz.func103 (by kernel_rfl) (by kernel_rfl) (by kernel_rfl) (by kernel_rfl)
  have h247 := @run_callFunc_extern Tryz.prog 247 _ (ReflectliteType.abiMethod fun t => do pure (.int .u8 (← Rtype.kind t))) Tryz.func247 (by kernel_rfl) (by kernel_rfl) (by kernel_rfl) (by kernel_rfl)
  have h260 := @run_callFunc_extern Tryz.prog 260 _ (ReflectliteType.method ReflectliteType.elem) Tryz.func260 (by kernel_rfl) (by kernel_rfl) (by kernel_rfl) (by kernel_rfl)
  have h261 := @run_callFunc_extern Tryz.prog 261 _ (ReflectliteType.relation "Implements" ReflectliteType.implements_) Tryz.func261 (by kernel_rfl) (by kernel_rfl) (by kernel_rfl) (by kernel_rfl)
  have h135 := @run_callFunc_extern Tryz.prog 135 _ ReflectliteType.typeOf Tryz.func135 (by kernel_rfl) (by kernel_rfl) (by kernel_rfl) (by kernel_rfl)
  have h258 := @run_callFunc_extern Tryz.prog 258 _ (ReflectliteType.relation "AssignableTo" ReflectliteType.assignableTo) Tryz.func258 (by kernel_rfl) (by kernel_rfl) (by kernel_rfl) (by kernel_rfl)
  have h136 := @run_callFunc_extern Tryz.prog 136 _ (ReflectliteValue.method (ReflectliteValue.valueError "reflectlite.Value.Elem" 0) ReflectliteValue.elem) Tryz.func136 (by kernel_rfl) (by kernel_rfl) (by kernel_rfl) (by kernel_rfl)
  have h137 := @run_callFunc_extern Tryz.prog 137 _ ReflectliteValue.set Tryz.func137 (by kernel_rfl) (by kernel_rfl) (by kernel_rfl) (by kernel_rfl)
  have mKind : ∀ (d : Nat) (h : Value) (w : World), (Go.method (d + 4) 198 (.agg #[h]) "Kind").run Tryz.prog w = .ok (247, h) w := fun _ _ _ => rfl
  have mElem : ∀ (d : Nat) (h : Value) (w : World), (Go.method (d + 4) 198 (.agg #[h]) "Elem").run Tryz.prog w = .ok (260, .agg #[h]) w := fun _ _ _ => rfl
  have mImplements : ∀ (d : Nat) (h : Value) (w : World), (Go.method (d + 4) 198 (.agg #[h]) "Implements").run Tryz.prog w = .ok (261, .agg #[h]) w := fun _ _ _ => rfl
  have mAssignableTo : ∀ (d : Nat) (h : Value) (w : World), (Go.method (d + 4) 198 (.agg #[h]) "AssignableTo").run Tryz.prog w = .ok (258, .agg #[h]) w := fun _ _ _ => rfl
  have hg0 : w.cell? ⟨1, 0, none⟩ = some (rtyv 95) := by
    have h := hG.errT
    rwa [show typeHandle Tryz.prog 95 = tyv 95 by kernel_rfl] at h
  have f6 := rf_valueOfF
  have f7 := rf_typeF
  have k1 := rf_kindF
  have k2 := rf_kindf
  have e1 := rf_elemF
  have i1 := rf_implf
  have t1 := rf_typeOfp
  have t2 := rf_typeOff
  have a1 := rf_asgpf
  have a2 := rf_asgff
  have v1 := rf_valueOff er
  have htl := blk_lt ht
  have hb1 := below_alloc (Below.refl w.heap.size w) (.cells #[.pointer (some ⟨tb, 0, none⟩)] 145)
  have hb2 := below_alloc hb1 (.cells #[tyv 145, .pointer (some ⟨w.heap.size, 0, none⟩), .int .u64 150] 169)
  have hb3 := below_alloc hb2 (.cells #[tyv 145, .pointer (some ⟨w.heap.size, 0, none⟩), .int .u64 150] 169)
  have hv1 := heap_alloc_new w (.cells #[.pointer (some ⟨tb, 0, none⟩)] 145)
  have hv2 := blk_alloc hv1 (.cells #[tyv 145, .pointer (some ⟨w.heap.size, 0, none⟩), .int .u64 150] 169)
  have hv3 := blk_alloc hv2 (.cells #[tyv 145, .pointer (some ⟨w.heap.size, 0, none⟩), .int .u64 150] 169)
  have n8 := rf_isNilF ⟨w.heap.size, 0, none⟩ ⟨tb, 0, none⟩ ((w.alloc (.cells #[.pointer (some ⟨tb, 0, none⟩)] 145)).alloc (.cells #[tyv 145, .pointer (some ⟨w.heap.size, 0, none⟩), .int .u64 150] 169)) ((blk_cell hv2 0).trans rfl)
  have hg : ((w.alloc (.cells #[.pointer (some ⟨tb, 0, none⟩)] 145)).alloc (.cells #[tyv 145, .pointer (some ⟨w.heap.size, 0, none⟩), .int .u64 150] 169)).cell? ⟨1, 0, none⟩ = some (rtyv 95) := pw_cell_below hb2 hg0
  have HB3 := Aside0.mk hb3
  have HT := Aside0.mk ht
  have HV3 := Aside0.mk hv3
  clear ht hb1 hb2 hb3 hv1 hv2 hv3 hg0
  have mU : ∀ (d : Nat) (w : World), (Go.method (d + 4) 138 (.agg (plv k er)) "Unwrap").run Tryz.prog w = .ok (253, .agg (plv k er)) w := fun _ _ => rfl
  have ta : ∀ w : World, (Instr.typeAssert (.iface 138 (.agg (plv k er))) 95 203 true).run Tryz.prog w = .ok (.tuple #[.nilIface, .bool false]) w := fun w => run_typeAssert_lacksB Tryz.underlying203 (by kernel_rfl) (by kernel_rfl) _ _ w
  have tu : ∀ w : World, (Instr.typeAssert (.iface 138 (.agg (plv k er))) 95 206 true).run Tryz.prog w = .ok (.tuple #[.iface 138 (.agg (plv k er)), .bool true]) w := fun w => run_typeAssert_hasB Tryz.underlying206 (by kernel_rfl) _ _ w
  have HX3 : Aside0 ((((w.alloc (.cells #[.pointer (some ⟨tb, 0, none⟩)] 145)).alloc (.cells #[tyv 145, .pointer (some ⟨w.heap.size, 0, none⟩), .int .u64 150] 169)).alloc (.cells #[tyv 145, .pointer (some ⟨w.heap.size, 0, none⟩), .int .u64 150] 169)).heap[w.heap.size + 1 + 1]? = some (.cells #[tyv 145, .pointer (some ⟨w.heap.size, 0, none⟩), .int .u64 150] 169 (0, 0))) := ⟨by
    have h := heap_alloc_new ((w.alloc (.cells #[.pointer (some ⟨tb, 0, none⟩)] 145)).alloc (.cells #[tyv 145, .pointer (some ⟨w.heap.size, 0, none⟩), .int .u64 150] 169)) (.cells #[tyv 145, .pointer (some ⟨w.heap.size, 0, none⟩), .int .u64 150] 169)
    rwa [show ((w.alloc (.cells #[.pointer (some ⟨tb, 0, none⟩)] 145)).alloc (.cells #[tyv 145, .pointer (some ⟨w.heap.size, 0, none⟩), .int .u64 150] 169)).heap.size = w.heap.size + 1 + 1 by simp] at h⟩
  go_enter Tryz.func78, Tryz.ntmps78
  go_wp2
  refine wp_loop_rounds 2 ?_
  rw [rounds_succ]
  go_wp2_with (go_at_call 253; refine (unwrap_calls k er _).mono ?_; rintro e W5 ⟨rfl, hb5⟩; have el := rf_elemVF ⟨w.heap.size, 0, none⟩ ⟨tb, 0, none⟩ W5 ((blk_cell (blk_below HV3.out hb5) 0).trans rfl); have hx5 := blk_below HX3.out hb5; have z0 := (blk_cell hx5 0).trans rfl; have z1 := (blk_cell hx5 1).trans rfl; have z2 := (blk_cell hx5 2).trans rfl; have hb6 := below_alloc (below_step HB3.out hb5) (.cells #[.int .i64 er] 136); have hv6 := heap_alloc_new W5 (.cells #[.int .i64 er] 136); obtain ⟨W', hset, hW', hgr⟩ := rf_setf tb W5.heap.size er old (W5.alloc (.cells #[.int .i64 er] 136)) hv6 (blk_below HT.out hb6) ho; have HW := Aside0.mk hW'; have HGR := Aside0.mk ((grown_of_below hb6 (some tb)).trans hgr); clear hb6 hv6 hW' hgr hb5 hx5)
  rw [rounds_succ]
  go_wp2
  go_ret
  exact ⟨rfl, HW.out, HGR.out⟩
def td4.T4 : Bool × List (List Nat × List Nat) := (true, [([], []), ([0], [0]), ([], []), ([2], [2]), ([1, 0, 1], [1]), ([3, 4, 0, 1, 2, 3, 4], [3])])
def td4.B4 : List Nat := [0, 1, 0, 4, 3, 31]
theorem td4.tab4 : rtab .any (opsOf Tryz.f49 4) = td4.T4 := by kernel_rfl
theorem td4.bits4 : waitsOk td4.T4.2 td4.B4 = true := by kernel_rfl
set_option maxRecDepth 100000 in
set_option maxHeartbeats 4000000 in
theorem told_calls (k er : Int) (w : World) (hG : GW w) : Calls Tryz.prog 49 #[.iface 138 (.agg (plv k er))] w fun e w' => e = .returned (.tuple #[.int .i64 k, .int .i64 er]) ∧ Below w.heap.size w w' := by
  have hb1 := below_alloc (Below.refl w.heap.size w) (.cells #[.int .i64 0, .nilIface] 138)
  have hb2 := below_alloc hb1 (.cells #[.int .i64 0] 136)
  have hp := blk_alloc (heap_alloc_new w (.cells #[.int .i64 0, .nilIface] 138)) (.cells #[.int .i64 0] 136)
  have hf := heap_alloc_new (w.alloc (.cells #[.int .i64 0, .nilIface] 138)) (.cells #[.int .i64 0] 136)
  rw [show (w.alloc (.cells #[.int .i64 0, .nilIface] 138)).heap.size = w.heap.size + 1 by simp] at hf
  have HB2 := Aside0.mk hb2
  have HP := Aside0.mk hp
  have HF := Aside0.mk hf
  have HA1 := Aside0.mk (as_place k er w.heap.size _ rfl _ (hG.below hb2) hp)
  have HA2 := Aside0.mk (fun W (hb : Below w.heap.size w W) (h : W.heap[w.heap.size + 1]? = some (.cells #[.int .i64 0] 136 (0, 0))) => as_fault k er (w.heap.size + 1) _ rfl W (hG.below hb) h)
  clear hb1 hb2 hp hf hG
  go_enter Tryz.func49, Tryz.ntmps49
  go_wp2_with (first | (go_at_call 78; with_reducible refine HA1.out.mono ?_; rintro e W3 ⟨rfl, h3, g3⟩; have HP3 := Aside0.mk h3; have HF3 := Aside0.mk (blk_grown HF.out g3 (fun e => by have := Option.some.inj e; omega)); have HB3 := Aside0.mk (HB2.out.grown g3 HB2.out.size (fun k hk => by cases hk; exact Nat.le_refl _)); clear h3 g3 HA1) | (go_at_call 78; with_reducible refine (HA2.out W3 HB3.out HF3.out).mono ?_; rintro e W4 ⟨rfl, h4, g4⟩; have HF4 := Aside0.mk h4; have HP4 := Aside0.mk (blk_grown HP3.out g4 (fun e => by have := Option.some.inj e; omega)); have HB4 := Aside0.mk (HB3.out.grown g4 HB3.out.size (fun k hk => by cases hk; exact Nat.le_succ _)); clear h4 g4 HA2))
  refine sX (ds := []) (S := fun w' => w'.cell? ⟨w.heap.size, 0, none⟩ = some (.int .i64 k) ∧ w'.cell? ⟨w.heap.size + 1, 0, none⟩ = some (.int .i64 er)) td4.tab4 td4.bits4 ⟨(blk_cell (blk_drew HP4.out) 0).trans rfl, (blk_cell (blk_drew HF4.out) 0).trans rfl⟩ (fun HT_ HW_ hHeld => ?_)
  refine pX HT_ 0 1 14 ?_
  refine pX HT_ 2 5 16 ?_
  refine tX HT_ HW_ hHeld 1 7 15 ?_
  refine pX HT_ 4 23 2 ?_
  refine tX HT_ HW_ hHeld 3 31 17 ?_
  refine pX HT_ 5 63 3 ?_
  refine eX HT_ ?_
  clear HT_ HW_ hHeld
  go_wp2
  go_ret2
  exact ⟨rfl, below_step HB4.out (below_drew1 (Below.refl _ _))⟩
end Go.Proofs.YtmbpefnhkimplaaGreatDoor
end
