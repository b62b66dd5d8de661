/- The texts RCx0, RCx1, RCx, MnVb in one file, without what these claims do not use (put together by prune2.py). -/
import Derived.Test.YtmbpefnhkimplaaGreatDoorZE5
import Derived.Test.YtmbpefnhkimplaaGreatDoorZE7
import Derived.Test.YtmbpefnhkimplaaGreatDoorZE27
section
namespace Go.Proofs.YtmbpefnhkimplaaGreatDoor.RC
open Go.RowKit Go.Proofs.YtmbpefnhkimplaaGreatDoor Go.Proofs.YtmbpefnhkimplaaGreatDoor.K0 Go.Proofs.YtmbpefnhkimplaaGreatDoorW.PrintWords Go.Proofs.YtmbpefnhkimplaaGreatDoorW.PrintLast Go.Proofs.YtmbpefnhkimplaaGreatDoorW.PrintMore
attribute [local go_sem] max2_int min2_int max_two min_two max_three min_three max_four min_four
set_option linter.unusedVariables false
set_option linter.unusedSimpArgs false
end Go.Proofs.YtmbpefnhkimplaaGreatDoor.RC
end

section
namespace Go.Proofs.YtmbpefnhkimplaaGreatDoor.RC
open Go.RowKit Go.Proofs.YtmbpefnhkimplaaGreatDoor Go.Proofs.YtmbpefnhkimplaaGreatDoor.K0 Go.Proofs.YtmbpefnhkimplaaGreatDoorW.PrintWords Go.Proofs.YtmbpefnhkimplaaGreatDoorW.PrintLast Go.Proofs.YtmbpefnhkimplaaGreatDoorW.PrintMore
attribute [local go_sem] max2_int min2_int max_two min_two max_three min_three max_four min_four
set_option linter.unusedVariables false
set_option linter.unusedSimpArgs false
def slices_Index_string_string.l0 : Nat → List ByteArray → ByteArray → Int → Int → Option (Int)
 | 0, _, _, _, _ => none
 | k + 1, x0, x1, x7, x8 => if x8 < x7 then (if 0 ≤ x8 then (if x8 < (x0.length : Int) then (if x1.toList = (rdOf ByteArray.empty x0 x8).toList then (some x8) else (slices_Index_string_string.l0 k x0 x1 x7 (wrap64 (x8 + 1)))) else (none)) else (none)) else (some (-1))
def slices_Index_string_string.f (k : Nat) (l0 : List ByteArray) (a1 : ByteArray) : Option (Int) := slices_Index_string_string.l0 k l0 a1 (l0.length : Int) 0
set_option maxHeartbeats 8000000 in
set_option maxRecDepth 100000 in
theorem slices_Index_string_string.calls (k : Nat) (A0 : Option Addr) (c0 : Nat) (l0 : List ByteArray) (a1 : ByteArray) (r : Int) (w : World) (hr0 : Kd.C Kd.string w A0 l0.length l0) (hc0 : l0.length ≤ c0) (h : slices_Index_string_string.f k l0 a1 = some r) :
  Calls Tryz.prog 161 #[.slice A0 l0.length c0, .string a1] w fun e w' => e = .returned (.int .i64 r) ∧ Drawn0 w w' := by
 have HR0 := Aside0.mk hr0; have HC0 := Aside0.mk hc0; clear hr0 hc0; have H : (slices_Index_string_string.l0 k l0 a1 (l0.length : Int) 0) = some r := h; clear h; have H' := Aside0.mk H; clear H; go_enter Tryz.func161, Tryz.ntmps161; go_wp2
 go_loopg [8] k (fun kq v8 w' => ∃ (x8_1 : Int), v8 = .int .i64 x8_1 ∧ Aside0 (slices_Index_string_string.l0 kq l0 a1 (l0.length : Int) x8_1 = some r) ∧ Aside0 (kq ≤ k) ∧ Drawn0 w w')
 case atStart => exact ⟨(0), xR, H', ⟨Nat.le_refl _⟩, by repeat (first | exact Drawn0.refl _ | apply Drawn0.step)⟩
 case round =>
  clear H'
  try clear c1
  try clear p2
  obtain ⟨x8_1, rfl, HA, HK1, ⟨m1, rfl⟩⟩ := hrel
  cases gk with
  | zero => exact absurd HA.out (by simp [slices_Index_string_string.l0])
  | succ k1 =>
   have H := HA.out; clear HA; simp only [slices_Index_string_string.l0] at H; replace H := xJ H; rcases H with ⟨c3, H⟩ | ⟨c3, H⟩
   ·
    replace c3 := decide_eq_true c3; replace H := xI H; obtain ⟨c4, H⟩ := H; replace c4 := decide_eq_true c4; replace H := xI H; obtain ⟨c5, H⟩ := H; replace c5 := decide_eq_true c5; replace H := xJ H; rcases H with ⟨c6, H⟩ | ⟨c6, H⟩
    ·
     have c6b0 := beq_iff_eq.mpr c6; have c6b1 := bne_eq_false_iff_eq.mpr c6; clear c6; obtain rfl := Option.some.inj H; obtain ⟨p101, q101, ad101, e101, hx101_0⟩ := xT (Kd.at_string HR0.out x8_1)
     cases e101
     go_wp2; go_ret; exact ⟨xR, xG⟩
    have c6b0 := beq_eq_false_iff_ne.mpr c6; have c6b1 := bne_iff_ne.mpr c6; have H' := Aside0.mk H; clear H; obtain ⟨p101, q101, ad101, e101, hx101_0⟩ := xT (Kd.at_string HR0.out x8_1)
    cases e101
    go_wp2; go_roundg k1
    case measure => exact xO1
    case rel => exact ⟨(wrap64 (x8_1 + 1)), xR, H', ⟨xO1⟩, by repeat (first | exact Drawn0.refl _ | apply Drawn0.step)⟩
   replace c3 := decide_eq_false c3; obtain rfl := Option.some.inj H; go_wp2; go_ret; exact ⟨xR, xG⟩
def slices_Contains_string_string.f (k : Nat) (l0 : List ByteArray) (a1 : ByteArray) : Option (Bool) := (slices_Index_string_string.f k l0 a1).bind fun t102 => (some (decide (t102 ≥ 0)))
set_option maxHeartbeats 8000000 in
set_option maxRecDepth 100000 in
theorem slices_Contains_string_string.calls (k : Nat) (A0 : Option Addr) (c0 : Nat) (l0 : List ByteArray) (a1 : ByteArray) (r : Bool) (w : World) (hr0 : Kd.C Kd.string w A0 l0.length l0) (hc0 : l0.length ≤ c0) (h : slices_Contains_string_string.f k l0 a1 = some r) :
  Calls Tryz.prog 127 #[.slice A0 l0.length c0, .string a1] w fun e w' => e = .returned (.bool r) ∧ Drawn0 w w' := by
 have HR0 := Aside0.mk hr0; have HC0 := Aside0.mk hc0; clear hr0 hc0; have H : ((slices_Index_string_string.f k l0 a1).bind fun t102 => (some (decide (t102 ≥ 0)))) = some r := h; clear h; replace H := xb H; obtain ⟨t102, A3, H⟩ := H; obtain rfl := Option.some.inj H; go_enter Tryz.func127, Tryz.ntmps127; go_wp2_with (first | ((with_reducible refine gate_callee (f := 161) rfl ?_); refine goesL_ (some 7) rfl rfl Tryz.func161 (by kernel_rfl) rfl #[.slice A0 l0.length c0, .string a1] rfl xS ?_; (with_reducible refine (slices_Index_string_string.calls k _ _ l0 a1 t102 _ ?side1 ?side2 A3.out).mono ?_); (case side1 => repeat (first | exact HR0.out | (with_reducible refine Kd.C_alloc ?_ _) | (with_reducible refine Kd.C_drewN ?_ _) | (with_reducible refine Kd.C_drew ?_))); (case side2 => exact HC0.out); rintro e w' ⟨rfl, ⟨nd, rfl⟩⟩; refine ⟨_, rfl, ?_⟩)); go_ret; exact ⟨xR, xG⟩
end Go.Proofs.YtmbpefnhkimplaaGreatDoor.RC
end

section
namespace Go.Proofs.YtmbpefnhkimplaaGreatDoor.RC
open Go.RowKit Go.Proofs.YtmbpefnhkimplaaGreatDoor Go.Proofs.YtmbpefnhkimplaaGreatDoor.K0 Go.Proofs.YtmbpefnhkimplaaGreatDoorW.PrintWords Go.Proofs.YtmbpefnhkimplaaGreatDoorW.PrintLast Go.Proofs.YtmbpefnhkimplaaGreatDoorW.PrintMore
attribute [local go_sem] max2_int min2_int max_two min_two max_three min_three max_four min_four
set_option linter.unusedVariables false
set_option linter.unusedSimpArgs false
end Go.Proofs.YtmbpefnhkimplaaGreatDoor.RC
end

section
namespace Go.Proofs.YtmbpefnhkimplaaGreatDoor
open Go Go.RowKit Go.Sort Go.Maps Go.Proofs Go.Proofs.YtmbpefnhkimplaaGreatDoorW.PrintWords Go.Proofs.YtmbpefnhkimplaaGreatDoorW.PrintLast Go.Proofs.YtmbpefnhkimplaaGreatDoor.K0 Go.Proofs.YtmbpefnhkimplaaGreatDoor.R1 Go.Proofs.YtmbpefnhkimplaaGreatDoor.R2 Go.Proofs.YtmbpefnhkimplaaGreatDoor.RC
set_option linter.unusedVariables false
set_option linter.unusedSimpArgs false
/-- A verb's number (6: none), its shapes, whether it may have a block, what it does. -/
def verbK (v : List UInt8) : Nat := if v = [109, 111, 100, 117, 108, 101] then 0 else if v = [103, 111] then 1 else if v = [114, 101, 113, 117, 105, 114, 101] then 2 else if v = [101, 120, 99, 108, 117, 100, 101] then 3 else if v = [114, 101, 112, 108, 97, 99, 101] then 4 else if v = [114, 101, 116, 114, 97, 99, 116] then 5 else 6
def shapesK : Nat → List (List UInt8)
  | 0 => [[120]]
  | 1 => [[120]]
  | 2 => [[120, 120]]
  | 3 => [[120, 120]]
  | 4 => [[120, 61, 120]]
  | 5 => [[120], [91, 120, 44, 120, 93]]
  | _ => []
def blockK (k : Nat) : Bool := decide (2 ≤ k) && decide (k ≤ 5)
def fnK : Nat → Nat
  | 0 => 129
  | 1 => 130
  | 2 => 131
  | 3 => 132
  | 4 => 133
  | 5 => 134
  | _ => 0
abbrev vbv (b : Nat → Nat) (k : Nat) : Value := .agg #[.slice (some ⟨b k, 0, none⟩) (shapesK k).length (shapesK k).length, .bool (blockK k), .func (.func (fnK k)) #[] #[]]
abbrev vbz : Value := .agg #[.slice none 0 0, .bool false, .nilFunc]
def vbE (v : Value) : Option (DataW Value × List MemPlace) := some (.held v, [])
structure VbIs (D : DataW Value) (b : List UInt8 → Option Value) : Prop where
  map : IsMap D
  has : ∀ p, Maps.has D (.string p) = (b p).isSome
  val : ∀ p z, D.atKey (.string p) (.held z) = .held ((b p).getD z)
theorem VbIs.none : VbIs (.map []) (fun _ => Option.none) := ⟨isMap_empty, fun _ => rfl, fun _ _ => rfl⟩
theorem VbIs.put {D : DataW Value} {b : List UInt8 → Option Value} (h : VbIs D b) (p : List UInt8) (x : Value) : VbIs (D.put (.string p) (.held x)) (fun q => if p = q then some x else b q) where
  map := h.map.put _ _
  has q := by
    by_cases e : p = q
    · subst e
      rw [if_pos rfl, has_put_same h.map (show WideAt.IsKeyLit (.string p) from trivial)]; rfl
    · rw [if_neg e, has_put_other (fun e2 => e (by injection e2 with e2; exact e2.symm))]
      exact h.has q
  val q z := by
    by_cases e : p = q
    · subst e
      rw [if_pos rfl, atKey_put_same h.map (show WideAt.IsKeyLit (.string p) from trivial)]; rfl
    · rw [if_neg e, atKey_put_other (fun e2 => e (by injection e2 with e2; exact e2.symm))]
      exact h.val q z
/-- The map of verbs, under way. -/
structure VbSt (w0 w : World) (M n : Nat) (b : List UInt8 → Option Value) (hs : List (Nat × List (List UInt8))) : Prop where
  below : Below w0.heap.size w0 w
  ge : w0.heap.size ≤ M
  own : ∃ D, w.ownsMap Tryz.prog 9 vbE M n D ∧ VbIs D b
  rows : ∀ p ∈ hs, Kd.R Kd.string 9 w w0.heap.size (fun k => k ≠ M) (.slice (some ⟨p.1, 0, none⟩) p.2.length p.2.length) (p.2.map ba)
set_option maxRecDepth 100000 in
theorem vb_insert {ops : Array Oper} {rest : List Oper} {o : Oper} {a : Act} {Q : Exit → Act → World → Prop} {w0 w : World} {M n : Nat} {b : List UInt8 → Option Value} {hs : List (Nat × List (List UInt8))} (h : VbSt w0 w M n b hs) (hn : n < maxLen) (hg : o.guard = none) (m x y : Operand) (hop : o.op = .insert 164 m x y) (hm : a.eval m = .map (some M)) (key : ByteArray) (hx : a.eval x = .string key) (hk : key.size ≤ maxLen) (l : List (List UInt8)) (hl : l.length ≤ 9223372036854775807) (v : Value) (hv : a.eval y = v) (m : Nat) (hm' : m = w.heap.size)
    (hK : ∀ w', VbSt w0 w' M (n + 1) (fun q => if key.data.toList = q then some v else b q) ((m, l) :: hs) → wpList Tryz.prog ops Q rest (a.put o.dst undef) w') : wpList Tryz.prog ops Q (o :: rest) a (w.alloc (.cells ((l.map ba).map Value.string).toArray 9)) := by
  refine wpList_plain hg fun K' hK' => ?_
  obtain ⟨D, h1, h2⟩ := h.own
  have hM := h1.lt
  have hr := R_strings w (l.map ba) (by rw [List.length_map]; exact hl) 9
  have hb := below_alloc (Below.refl w.heap.size w) (.cells ((l.map ba).map Value.string).toArray 9)
  have h1' := h1.alloc (.cells ((l.map ba).map Value.string).toArray 9)
  generalize w.alloc (.cells ((l.map ba).map Value.string).toArray 9) = W at hr hb h1' ⊢
  obtain ⟨w', hrun, r1, r2⟩ := h1'.update spKey Tryz.underlying164 hn (Go.WideMaps.keyOf_string_mk Tryz.underlying9 hk) (show vbE v = some (.held v, []) from rfl)
  unfold Oper.wp
  simp [execOp, hop, hm, hx, hv, hrun, Result.andThen]
  have hs0 := h.below.size
  have hb2 := below_step h.below hb
  refine hK' _ _ (hK w' ⟨hb2.grown r2 hb2.size (fun k e => by cases e; exact h.ge), h.ge, ⟨_, r1, h2.put key.data.toList v⟩, fun p hp => ?_⟩)
  have hne : ∀ k, k ≠ M → some k ≠ some M := fun k hk e => hk (Option.some.inj e)
  rcases List.mem_cons.1 hp with rfl | hp
  · subst hm'
    rw [List.length_map] at hr
    exact Kd.R_grown (Kd.R_lower (Kd.R_mono (Kd.R_bound hr) (fun k hk => by have := hk.2.1; omega)) hs0) r2 hne
  · exact Kd.R_grown (Kd.R_below (h.rows p hp) hb) r2 hne
theorem vb_start (w : World) : VbSt w (w.alloc (.map #[] 0)) w.heap.size 0 (fun _ => none) [] :=
  ⟨below_alloc (Below.refl _ _) _, Nat.le_refl _, ⟨_, World.ownsMap_made w Tryz.prog 9 vbE, VbIs.none⟩, fun p hp => by cases hp⟩
/-- Block M holds the verbs. -/
structure VbAt (w : World) (M : Nat) : Prop where
  out : ∃ (D : DataW Value) (n : Nat) (b : Nat → Nat), w.ownsMap Tryz.prog 9 vbE M n D ∧ VbIs D (fun q => if verbK q < 6 then some (vbv b (verbK q)) else none) ∧ ∀ k, k < 6 → Kd.C Kd.string w (some ⟨b k, 0, none⟩) (shapesK k).length ((shapesK k).map ba)
theorem VbAt.below {w w' : World} {M : Nat} (h : VbAt w M) (hb : Below w.heap.size w w') : VbAt w' M := by
  obtain ⟨D, n, b, h1, h2, h3⟩ := h.out
  exact ⟨D, n, b, h1.kept (grown_of_below hb none) (by simp), h2, fun k hk => Kd.C_below (h3 k hk) hb⟩
/-- What a look finds. -/
def vbL (w : World) (k : Nat) (v : Value) : Prop := (k < 6 ∧ ∃ ad, v = .agg #[.slice (some ad) (shapesK k).length (shapesK k).length, .bool (blockK k), .func (.func (fnK k)) #[] #[]] ∧ Kd.C Kd.string w (some ad) (shapesK k).length ((shapesK k).map ba)) ∨ (¬ k < 6 ∧ v = vbz)
set_option maxRecDepth 100000 in
theorem VbAt.look {w : World} {M : Nat} (h : VbAt w M) (s : ByteArray) (hs : s.size ≤ maxLen) : ∃ v, (Instr.lookup 164 (.map (some M)) (.string s) true).run Tryz.prog w = .ok (.tuple #[v, .bool (decide (verbK s.data.toList < 6))]) w ∧ (Instr.lookup 164 (.map (some M)) (.string s) false).run Tryz.prog w = .ok v w ∧ vbL w (verbK s.data.toList) v := by
  obtain ⟨D, n, b, h1, h2, h3⟩ := h.out
  have hz : (zeroValue 163).run Tryz.prog w = .ok vbz w := by kernel_rfl
  have hkey := Go.WideMaps.keyOf_string_mk Tryz.underlying9 hs
  obtain ⟨v, ps, hrun, hv⟩ := h1.look_ok spKey Tryz.underlying164 hz (show vbE vbz = some (.held vbz, []) from rfl) hkey
  obtain ⟨v', ps', hrun', hv'⟩ := h1.lookup spKey Tryz.underlying164 hz (show vbE vbz = some (.held vbz, []) from rfl) hkey
  rw [h2.val] at hv hv'
  obtain rfl := DataW.held.inj (Prod.mk.inj (Option.some.inj hv)).1
  obtain rfl := DataW.held.inj (Prod.mk.inj (Option.some.inj hv')).1
  rw [h2.has] at hrun
  refine ⟨_, ?_, hrun', ?_⟩
  · rw [hrun]
    congr 5
    by_cases hk : verbK s.data.toList < 6
    · rw [if_pos hk, decide_eq_true hk]; rfl
    · rw [if_neg hk, decide_eq_false hk]; rfl
  · by_cases hk : verbK s.data.toList < 6
    · rw [if_pos hk]
      exact .inl ⟨hk, _, rfl, h3 _ hk⟩
    · rw [if_neg hk]
      exact .inr ⟨hk, rfl⟩
def nthB (l : List Nat) (k : Nat) : Nat := l.getD k 0
theorem vb_end {w0 w : World} {M n : Nat} {a b c d e f : Nat} {sp : List UInt8 → Option Value} (h : VbSt w0 w M n sp [(f, [[120], [91, 120, 44, 120, 93]]), (e, [[120, 61, 120]]), (d, [[120, 120]]), (c, [[120, 120]]), (b, [[120]]), (a, [[120]])])
    (hq : ∀ q, sp q = if verbK q < 6 then some (vbv (nthB [a, b, c, d, e, f]) (verbK q)) else none) : VbAt w M := by
  obtain ⟨D, h1, h2⟩ := h.own
  have hC := fun p hp => (Kd.R_reads' (h.rows p hp)).2.2
  refine ⟨D, n, nthB [a, b, c, d, e, f], h1, funext hq ▸ h2, fun k hk => ?_⟩
  match k, hk with
  | 0, _ => exact hC (a, _) (by simp)
  | 1, _ => exact hC (b, _) (by simp)
  | 2, _ => exact hC (c, _) (by simp)
  | 3, _ => exact hC (d, _) (by simp)
  | 4, _ => exact hC (e, _) (by simp)
  | 5, _ => exact hC (f, _) (by simp)
theorem vb_sp (a b c d e f : Nat) (q : List UInt8) : (if [114, 101, 116, 114, 97, 99, 116] = q then some (.agg #[.slice (some ⟨f, 0, none⟩) 2 2, .bool true, .func (.func 134) #[] #[]]) else if [114, 101, 112, 108, 97, 99, 101] = q then some (.agg #[.slice (some ⟨e, 0, none⟩) 1 1, .bool true, .func (.func 133) #[] #[]]) else if [101, 120, 99, 108, 117, 100, 101] = q then some (.agg #[.slice (some ⟨d, 0, none⟩) 1 1, .bool true, .func (.func 132) #[] #[]]) else if [114, 101, 113, 117, 105, 114, 101] = q then some (.agg #[.slice (some ⟨c, 0, none⟩) 1 1, .bool true, .func (.func 131) #[] #[]]) else if [103, 111] = q then some (.agg #[.slice (some ⟨b, 0, none⟩) 1 1, .bool false, .func (.func 130) #[] #[]]) else if [109, 111, 100, 117, 108, 101] = q then some (.agg #[.slice (some ⟨a, 0, none⟩) 1 1, .bool false, .func (.func 129) #[] #[]]) else none) = if verbK q < 6 then some (vbv (nthB [a, b, c, d, e, f]) (verbK q)) else none := by
  repeat (split; (rename_i h; subst h; rfl))
  rename_i h5 h4 h3 h2 h1 h0
  have e : verbK q = 6 := by
    unfold verbK
    rw [if_neg (fun e => h0 e.symm), if_neg (fun e => h1 e.symm), if_neg (fun e => h2 e.symm), if_neg (fun e => h3 e.symm), if_neg (fun e => h4 e.symm), if_neg (fun e => h5 e.symm)]
  rw [e, if_neg (by decide)]
set_option maxRecDepth 100000 in
set_option maxHeartbeats 4000000 in
theorem verbs_calls (w : World) : Calls Tryz.prog 100 #[] w fun e w' => ∃ M, e = .returned (.map (some M)) ∧ Below w.heap.size w w' ∧ VbAt w' M := by
  have HS0 := Aside0.mk (vb_start w)
  have hmm : ∀ w : World, (Instr.makeMap 164 none).run Tryz.prog w = .ok (.map (some w.heap.size)) (w.alloc (.map #[] 0)) := fun _ => rfl
  go_enter Tryz.func100, Tryz.ntmps100
  go_wp2_with (first | ((with_reducible refine gate_ (.insert 164 (.tmp 1) (.const (.string ⟨#[109, 111, 100, 117, 108, 101]⟩)) (.tmp 3)) rfl ?_); refine vb_insert HS0.out (show 0 < maxLen by decide) rfl (.tmp 1) (.const (.string ⟨#[109, 111, 100, 117, 108, 101]⟩)) (.tmp 3) rfl rfl ⟨#[109, 111, 100, 117, 108, 101]⟩ rfl (by decide) [[120]] (by decide) (.agg #[.slice (some ⟨w.heap.size + 1, 0, none⟩) 1 1, .bool false, .func (.func 129) #[] #[]]) rfl _ (show w.heap.size + 1 = _ by simp) ?_; intro W1 hn; have HS1 := Aside0.mk hn; clear hn) | ((with_reducible refine gate_ (.insert 164 (.tmp 1) (.const (.string ⟨#[103, 111]⟩)) (.tmp 5)) rfl ?_); refine vb_insert HS1.out (show 1 < maxLen by decide) rfl (.tmp 1) (.const (.string ⟨#[103, 111]⟩)) (.tmp 5) rfl rfl ⟨#[103, 111]⟩ rfl (by decide) [[120]] (by decide) (.agg #[.slice (some ⟨W1.heap.size, 0, none⟩) 1 1, .bool false, .func (.func 130) #[] #[]]) rfl _ rfl ?_; intro W2 hn; have HS2 := Aside0.mk hn; clear hn) | ((with_reducible refine gate_ (.insert 164 (.tmp 1) (.const (.string ⟨#[114, 101, 113, 117, 105, 114, 101]⟩)) (.tmp 7)) rfl ?_); refine vb_insert HS2.out (show 2 < maxLen by decide) rfl (.tmp 1) (.const (.string ⟨#[114, 101, 113, 117, 105, 114, 101]⟩)) (.tmp 7) rfl rfl ⟨#[114, 101, 113, 117, 105, 114, 101]⟩ rfl (by decide) [[120, 120]] (by decide) (.agg #[.slice (some ⟨W2.heap.size, 0, none⟩) 1 1, .bool true, .func (.func 131) #[] #[]]) rfl _ rfl ?_; intro W3 hn; have HS3 := Aside0.mk hn; clear hn) | ((with_reducible refine gate_ (.insert 164 (.tmp 1) (.const (.string ⟨#[101, 120, 99, 108, 117, 100, 101]⟩)) (.tmp 9)) rfl ?_); refine vb_insert HS3.out (show 3 < maxLen by decide) rfl (.tmp 1) (.const (.string ⟨#[101, 120, 99, 108, 117, 100, 101]⟩)) (.tmp 9) rfl rfl ⟨#[101, 120, 99, 108, 117, 100, 101]⟩ rfl (by decide) [[120, 120]] (by decide) (.agg #[.slice (some ⟨W3.heap.size, 0, none⟩) 1 1, .bool true, .func (.func 132) #[] #[]]) rfl _ rfl ?_; intro W4 hn; have HS4 := Aside0.mk hn; clear hn) | ((with_reducible refine gate_ (.insert 164 (.tmp 1) (.const (.string ⟨#[114, 101, 112, 108, 97, 99, 101]⟩)) (.tmp 11)) rfl ?_); refine vb_insert HS4.out (show 4 < maxLen by decide) rfl (.tmp 1) (.const (.string ⟨#[114, 101, 112, 108, 97, 99, 101]⟩)) (.tmp 11) rfl rfl ⟨#[114, 101, 112, 108, 97, 99, 101]⟩ rfl (by decide) [[120, 61, 120]] (by decide) (.agg #[.slice (some ⟨W4.heap.size, 0, none⟩) 1 1, .bool true, .func (.func 133) #[] #[]]) rfl _ rfl ?_; intro W5 hn; have HS5 := Aside0.mk hn; clear hn) | ((with_reducible refine gate_ (.insert 164 (.tmp 1) (.const (.string ⟨#[114, 101, 116, 114, 97, 99, 116]⟩)) (.tmp 13)) rfl ?_); refine vb_insert HS5.out (show 5 < maxLen by decide) rfl (.tmp 1) (.const (.string ⟨#[114, 101, 116, 114, 97, 99, 116]⟩)) (.tmp 13) rfl rfl ⟨#[114, 101, 116, 114, 97, 99, 116]⟩ rfl (by decide) [[120], [91, 120, 44, 120, 93]] (by decide) (.agg #[.slice (some ⟨W5.heap.size, 0, none⟩) 2 2, .bool true, .func (.func 134) #[] #[]]) rfl _ rfl ?_; intro W6 hn; have HS6 := Aside0.mk hn; clear hn))
  go_ret
  exact ⟨_, rfl, HS6.out.below, vb_end HS6.out (fun q => vb_sp _ _ _ _ _ _ q)⟩
/-- Is a shape among a verb's? -/
theorem shapes_f (k : Nat) (t : List UInt8) : slices_Contains_string_string.f 4 ((shapesK k).map ba) (ba t) = some ((shapesK k).contains t) := by
  have hb : ∀ t s : List UInt8, ((ba t).toList = (ba s).toList) = (t = s) := fun t s => by rw [ByteArray.toList_eq, ByteArray.toList_eq, ba_data, ba_data]
  have w1 : wrap64 1 = 1 := by exact wrap_id (by omega) (by omega)
  have w2 : wrap64 2 = 2 := by exact wrap_id (by omega) (by omega)
  have h1 : ∀ s : List UInt8, slices_Contains_string_string.f 4 [ba s] (ba t) = some (decide (t = s)) := fun s => by
    by_cases h : t = s
    · simp [slices_Contains_string_string.f, slices_Index_string_string.f, slices_Index_string_string.l0, rdOf, hb, h]
    · simp [slices_Contains_string_string.f, slices_Index_string_string.f, slices_Index_string_string.l0, rdOf, hb, h, w1]
  have h2 : ∀ s u : List UInt8, slices_Contains_string_string.f 4 [ba s, ba u] (ba t) = some (decide (t = s) || decide (t = u)) := fun s u => by
    by_cases h : t = s
    · simp [slices_Contains_string_string.f, slices_Index_string_string.f, slices_Index_string_string.l0, rdOf, hb, h]
    · by_cases h' : t = u
      · subst h'
        simp [slices_Contains_string_string.f, slices_Index_string_string.f, slices_Index_string_string.l0, rdOf, hb, h, w1]
      · simp [slices_Contains_string_string.f, slices_Index_string_string.f, slices_Index_string_string.l0, rdOf, hb, h, h', w1, w2]
  have h0 : slices_Contains_string_string.f 4 [] (ba t) = some false := by
    simp [slices_Contains_string_string.f, slices_Index_string_string.f, slices_Index_string_string.l0]
  unfold shapesK
  have c1 : ∀ s : List UInt8, [s].contains t = decide (t = s) := fun s => by by_cases h : t = s <;> simp [h]
  have c2 : ∀ s u : List UInt8, [s, u].contains t = (decide (t = s) || decide (t = u)) := fun s u => by by_cases h : t = s <;> by_cases h' : t = u <;> simp [h, h']
  have c0 : ([] : List (List UInt8)).contains t = false := rfl
  split <;> simp only [List.map_cons, List.map_nil, h0, h1, h2, c0, c1, c2]
end Go.Proofs.YtmbpefnhkimplaaGreatDoor
end
