/- The texts BpFns, As, BpEv in one file, without what these claims do not use (put together by prune2.py). -/
import Derived.Test.YtillhaipemengaaGreatDoorZU16
import Derived.Test.YtillhaipemengaaGreatDoorZU4
import Derived.Test.YtillhaipemengaaGreatDoorZU1
import Derived.Deep.MidRow
section
namespace Go.Proofs.YtillhaipemengaaGreatDoor
open Go Go.RowKit Go.Sort Go.Proofs Go.Proofs.YtillhaipemengaaGreatDoorW.PrintWords Go.Proofs.YtillhaipemengaaGreatDoor.K0
set_option linter.unusedVariables false
set_option linter.unusedSimpArgs false
abbrev plc (A0 A1 A3 : Option Addr) (n0 c0 n1 c1 n3 c3 : Nat) : Array Value := #[.slice A0 n0 c0, .slice A1 n1 c1, .slice A3 n3 c3]
theorem cell_new (w : World) (cs : Array Value) (t : TypeId) (j : Nat) (v : Value) (h : cs[j]? = some v) : (w.alloc (.cells cs t)).cell? ⟨w.heap.size, j, none⟩ = some v := by
  unfold World.cell?; rw [heap_alloc_new]; exact h
theorem levels_calls (n : Int) (w : World) : Calls Tryz.prog 29 #[.int .i64 n] w fun e w' => e = .returned (.bool (lvlOk n)) ∧ Below w.heap.size w w' := by
  unfold lvlOk
  by_cases h1 : 1 ≤ n
  · by_cases h2 : n ≤ 3
    · rw [decide_eq_true h1, decide_eq_true h2]
      go_enter Tryz.func29, Tryz.ntmps29
      go_wp2
      go_ret
      exact ⟨rfl, Below.refl _ _⟩
    · rw [decide_eq_true h1, decide_eq_false h2]
      go_enter Tryz.func29, Tryz.ntmps29
      go_wp2
      go_ret
      exact ⟨rfl, Below.refl _ _⟩
  · rw [decide_eq_false h1, Bool.false_and]
    go_enter Tryz.func29, Tryz.ntmps29
    go_wp2
    go_ret
    exact ⟨rfl, Below.refl _ _⟩
theorem place_clo (B : Nat) (path s p : ByteArray) (v : Value) (W : World) (h : W.cell? ⟨B, 0, none⟩ = some (.string path)) :
    Calls Tryz.prog 80 #[.agg #[.string s, .string p, v], .pointer (some ⟨B, 0, none⟩)] W fun e w' => e = .returned (.bool (p.toList == path.toList)) ∧ Below W.heap.size W w' := by
  have hlt : B < W.heap.size := World.block_lt_of_cell? W _ h
  have h2 : ∀ o, (W.alloc o).cell? ⟨B, 0, none⟩ = some (.string path) := fun o => (World.cell?_alloc_old W o _ (show B ≠ W.heap.size by omega)).trans h
  clear hlt
  go_enter Tryz.func80, Tryz.ntmps80
  go_wp2
  go_ret
  exact ⟨rfl, by repeat (first | exact Below.refl _ _ | apply below_alloc | apply pw_below_drewN | apply below_drew1)⟩
theorem place_calls (A0 A1 A3 : Option Addr) (c0 n1 c1 n3 c3 : Nat) (l : List Md) (path : ByteArray) (w : World) (hr : Kd.C k63 w A0 l.length l) :
    Calls Tryz.prog 42 #[.agg (plc A0 A1 A3 l.length c0 n1 c1 n3 c3), .string path] w fun e w' => e = .returned (.int .i64 (placeOf l path)) ∧ Below w.heap.size w w' := by
  have g1 := cell_new (w.alloc (.cells (plc A0 A1 A3 l.length c0 n1 c1 n3 c3) 86)) #[.string path] 9 0 _ rfl
  have hs : (w.alloc (.cells (plc A0 A1 A3 l.length c0 n1 c1 n3 c3) 86)).heap.size = w.heap.size + 1 := by simp
  rw [hs] at g1
  have hc := IndexFunc_Mod A0 c0 l (fun y => y.f1.toList == path.toList) 80 #[.pointer (some ⟨w.heap.size + 1, 0, none⟩)] (enters_of Tryz.func80 (by kernel_rfl) rfl) ((w.alloc (.cells (plc A0 A1 A3 l.length c0 n1 c1 n3 c3) 86)).alloc (.cells #[.string path] 9)) (Kd.C_alloc (Kd.C_alloc hr _) _) (fun j x hx W hb cs hK => by
    obtain ⟨A2, c2, rfl, _, _⟩ := k63_open hK
    exact place_clo _ path _ _ _ W (below_cell hb g1))
  rw [show idxFrom (fun y : Md => y.f1.toList == path.toList) 0 l = placeOf l path from rfl] at hc
  generalize placeOf l path = z at hc ⊢
  generalize l.length = n at *
  clear hr g1 hs
  have hmf : ∀ (fn : Fn) (first cap : Array Value) (w : World), (Instr.makeFunc fn first cap).run Tryz.prog w = .ok (.func fn first cap) w := fun _ _ _ _ => rfl
  go_enter Tryz.func42, Tryz.ntmps42
  go_wp2_with (go_at_call 72; refine hc.mono ?_; rintro e w2 ⟨rfl, hb2⟩; have HB := Aside0.mk hb2; clear hb2)
  go_ret
  exact ⟨rfl, below_step (below_alloc (below_alloc (Below.refl _ _) _) _) HB.out⟩
theorem level_clo (B : Nat) (path s : ByteArray) (n : Int) (W : World) (h : W.cell? ⟨B, 0, none⟩ = some (.string path)) :
    Calls Tryz.prog 141 #[.agg #[.string s, .int .i64 n], .pointer (some ⟨B, 0, none⟩)] W fun e w' => e = .returned (.bool (s.toList == path.toList)) ∧ Below W.heap.size W w' := by
  have hlt : B < W.heap.size := World.block_lt_of_cell? W _ h
  have h2 : ∀ o, (W.alloc o).cell? ⟨B, 0, none⟩ = some (.string path) := fun o => (World.cell?_alloc_old W o _ (show B ≠ W.heap.size by omega)).trans h
  clear hlt
  go_enter Tryz.func141, Tryz.ntmps141
  go_wp2
  go_ret
  exact ⟨rfl, by repeat (first | exact Below.refl _ _ | apply below_alloc | apply pw_below_drewN | apply below_drew1)⟩
theorem lev_cases (p : ByteArray) : ∀ (ws : List Wt) (k : Nat), (idxFrom (fun y : Wt => y.f0.toList == p.toList) k ws = -1 ∧ levOf ws p = 1) ∨ ∃ (i : Nat) (x : Wt), ws[i]? = some x ∧ idxFrom (fun y : Wt => y.f0.toList == p.toList) k ws = ((k + i : Nat) : Int) ∧ levOf ws p = x.f1
  | [], k => .inl ⟨rfl, rfl⟩
  | x :: ws, k => by
    unfold idxFrom levOf
    rw [List.find?_cons, tl_eq]
    by_cases h : x.f0 = p
    · refine .inr ⟨0, x, rfl, by simp [h], by simp [h]⟩
    · rw [if_neg (by simpa using h)]
      simp only [decide_eq_false h]
      rcases lev_cases p ws (k + 1) with ⟨h1, h2⟩ | ⟨i, y, h1, h2, h3⟩
      · exact .inl ⟨h1, h2⟩
      · exact .inr ⟨i + 1, y, by simpa using h1, by rw [h2]; congr 1; omega, h3⟩
set_option maxHeartbeats 1000000 in
theorem level_calls (A0 A1 A3 : Option Addr) (n0 c0 n1 c1 c3 : Nat) (ws : List Wt) (path : ByteArray) (w : World) (hr : Kd.C k72 w A3 ws.length ws) :
    Calls Tryz.prog 115 #[.agg (plc A0 A1 A3 n0 c0 n1 c1 ws.length c3), .string path] w fun e w' => e = .returned (.int .i64 (levOf ws path)) ∧ Below w.heap.size w w' := by
  have hs : (w.alloc (.cells (plc A0 A1 A3 n0 c0 n1 c1 ws.length c3) 86)).heap.size = w.heap.size + 1 := by simp
  have p0 := cell_new w (plc A0 A1 A3 n0 c0 n1 c1 ws.length c3) 86 2 _ rfl
  have g1 := cell_new (w.alloc (.cells (plc A0 A1 A3 n0 c0 n1 c1 ws.length c3) 86)) #[.string path] 9 0 _ rfl
  rw [hs] at g1
  have p1 := below_cell (below_alloc (Below.refl _ _) (.cells #[.string path] 9)) p0
  have hc := IndexFunc_Want A3 c3 ws (fun y => y.f0.toList == path.toList) 141 #[.pointer (some ⟨w.heap.size + 1, 0, none⟩)] (enters_of Tryz.func141 (by kernel_rfl) rfl) ((w.alloc (.cells (plc A0 A1 A3 n0 c0 n1 c1 ws.length c3) 86)).alloc (.cells #[.string path] 9)) (Kd.C_alloc (Kd.C_alloc hr _) _) (fun j x hx W hb cs hK => by
    obtain rfl := k72_open hK
    exact level_clo _ path _ _ W (below_cell hb g1))
  have hmf : ∀ (fn : Fn) (first cap : Array Value) (w : World), (Instr.makeFunc fn first cap).run Tryz.prog w = .ok (.func fn first cap) w := fun _ _ _ _ => rfl
  have HRR := Aside0.mk (fun W (hb : Below w.heap.size w W) => Kd.C_below hr hb)
  have hbase := Aside0.mk (below_alloc (below_alloc (Below.refl w.heap.size w) (.cells (plc A0 A1 A3 n0 c0 n1 c1 ws.length c3) 86)) (.cells #[.string path] 9))
  rcases lev_cases path ws 0 with ⟨h1, h2⟩ | ⟨i, x, hx, h1, h2⟩
  · rw [h1] at hc
    rw [h2]
    generalize ws.length = n at *
    clear hr g1 hs h1 h2 p0 p1
    go_enter Tryz.func115, Tryz.ntmps115
    go_wp2_with (go_at_call 113; refine hc.mono ?_; rintro e w2 ⟨rfl, hb2⟩; have HB := Aside0.mk hb2; clear hb2)
    go_ret
    exact ⟨rfl, below_step hbase.out HB.out⟩
  · rw [Nat.zero_add] at h1
    rw [h1] at hc
    have hi := (List.getElem?_eq_some_iff.1 hx).1
    have hat := fun W (hb : Below w.heap.size w W) => at_T72 (HRR.out W hb) (i : Int) (by omega) (by omega)
    have hxe : rd_T72 ws (i : Int) = x := by
      unfold rd_T72
      rw [Int.toNat_natCast, List.getD_eq_getElem?_getD, hx]; rfl
    rw [hxe, Int.toNat_natCast] at hat
    have hiz : (i : Int) < (ws.length : Int) := by omega
    have HAT := Aside0.mk hat
    clear hat
    rw [h2]
    generalize ws.length = n at *
    clear hr g1 hs h1 h2 p0 hx hxe HRR
    go_enter Tryz.func115, Tryz.ntmps115
    go_wp2_with (go_at_call 113; refine hc.mono ?_; rintro e w2 ⟨rfl, hb2⟩; have p2 := below_cell hb2 p1; obtain ⟨ad, hA, u0, u1⟩ := HAT.out w2 (below_step hbase.out hb2); subst hA; have HB := Aside0.mk hb2; clear hb2)
    go_ret
    exact ⟨rfl, below_step hbase.out HB.out⟩
theorem check_clo (B : Nat) (path s : ByteArray) (n : Int) (W : World) (h : W.cell? ⟨B, 0, none⟩ = some (.string path)) :
    Calls Tryz.prog 79 #[.agg #[.string s, .int .i64 n], .pointer (some ⟨B, 0, none⟩)] W fun e w' => e = .returned (.bool (s.toList == path.toList)) ∧ Below W.heap.size W w' := by
  have hlt : B < W.heap.size := World.block_lt_of_cell? W _ h
  have h2 : ∀ o, (W.alloc o).cell? ⟨B, 0, none⟩ = some (.string path) := fun o => (World.cell?_alloc_old W o _ (show B ≠ W.heap.size by omega)).trans h
  clear hlt
  go_enter Tryz.func79, Tryz.ntmps79
  go_wp2
  go_ret
  exact ⟨rfl, by repeat (first | exact Below.refl _ _ | apply below_alloc | apply pw_below_drewN | apply below_drew1)⟩
theorem any_eq (l : List Wt) (p : ByteArray) : (l.any fun y => y.f0.toList == p.toList) = l.any fun y => decide (y.f0 = p) := by
  congr 1; funext y; exact tl_eq _ _
set_option maxHeartbeats 2000000 in
theorem check_calls (A0 A1 A3 : Option Addr) (c0 n1 c1 c3 : Nat) (l : List Md) (ws : List Wt) (i : Nat) (x : Wt) (w : World) (hr : Kd.C k63 w A0 l.length l) (hw : Kd.C k72 w A3 ws.length ws) (hc3 : ws.length ≤ c3) (hx : ws[i]? = some x) :
    Calls Tryz.prog 41 #[.agg (plc A0 A1 A3 l.length c0 n1 c1 ws.length c3), .int .i64 i] w fun e w' => e = .returned (.int .i64 (wantBad l ws i x)) ∧ Below w.heap.size w w' := by
  have hi := (List.getElem?_eq_some_iff.1 hx).1
  have hiz : (i : Int) < (ws.length : Int) := by omega
  obtain ⟨W1, hW1⟩ : ∃ W1, w.alloc (.cells (plc A0 A1 A3 l.length c0 n1 c1 ws.length c3) 86) = W1 := ⟨_, rfl⟩
  have hs1 : W1.heap.size = w.heap.size + 1 := by rw [← hW1]; simp
  obtain ⟨W2, hW2⟩ : ∃ W2, W1.alloc (.cells #[.string x.f0, .int .i64 x.f1] 72) = W2 := ⟨_, rfl⟩
  have p0 : W1.cell? ⟨w.heap.size, 0, none⟩ = some (.slice A0 l.length c0) := by rw [← hW1]; exact cell_new w _ _ 0 _ rfl
  have p1 : W1.cell? ⟨w.heap.size, 1, none⟩ = some (.slice A1 n1 c1) := by rw [← hW1]; exact cell_new w _ _ 1 _ rfl
  have p2 : W1.cell? ⟨w.heap.size, 2, none⟩ = some (.slice A3 ws.length c3) := by rw [← hW1]; exact cell_new w _ _ 2 _ rfl
  have hb12 : Below W1.heap.size W1 W2 := by rw [← hW2]; exact below_alloc (Below.refl _ _) _
  have hb2 : Below w.heap.size w W2 := by rw [← hW2, ← hW1]; exact below_alloc (below_alloc (Below.refl _ _) _) _
  have x0 : W2.cell? ⟨w.heap.size + 1, 0, none⟩ = some (.string x.f0) := by rw [← hW2, ← hs1]; exact cell_new W1 _ _ 0 _ rfl
  have x1 : W2.cell? ⟨w.heap.size + 1, 1, none⟩ = some (.int .i64 x.f1) := by rw [← hW2, ← hs1]; exact cell_new W1 _ _ 1 _ rfl
  have hpl := place_calls A0 A1 A3 c0 n1 c1 ws.length c3 l x.f0 W2 (Kd.C_below hr hb2)
  have hlv := fun W => levels_calls x.f1 W
  have hcf := fun (W : World) (hb : Below W2.heap.size W2 W) => ContainsFunc_Want A3 c3 (ws.take i) (fun y => y.f0.toList == x.f0.toList) 79 #[.pointer (some ⟨w.heap.size + 1, 0, none⟩)] (enters_of Tryz.func79 (by kernel_rfl) rfl) W (Kd.C_take (Kd.C_below hw (below_step hb2 hb)) (by omega)) (fun j y hy W' hb' cs hK => by
    obtain rfl := k72_open hK
    exact check_clo _ x.f0 _ _ W' (below_cell hb' (below_cell hb x0)))
  rw [List.length_take, Nat.min_eq_left (by omega), any_eq] at hcf
  obtain ⟨ad, hA, u0, u1⟩ := at_T72 (Kd.C_below hw (show Below w.heap.size w W1 by rw [← hW1]; exact below_alloc (Below.refl _ _) _)) (i : Int) (by omega) (by omega)
  have hxe : rd_T72 ws (i : Int) = x := by
    unfold rd_T72
    rw [Int.toNat_natCast, List.getD_eq_getElem?_getD, hx]; rfl
  rw [hxe, Int.toNat_natCast] at u0 u1
  subst hA
  have q0 := below_cell hb12 p0
  have q1 := below_cell hb12 p1
  have q2 := below_cell hb12 p2
  unfold wantBad
  have HLV := Aside0.mk hlv
  have HCF := Aside0.mk hcf
  have HB2 := Aside0.mk hb2
  have HX := Aside0.mk (show ∀ W, Below W2.heap.size W2 W → W.cell? ⟨w.heap.size + 1, 0, none⟩ = some (.string x.f0) ∧ W.cell? ⟨w.heap.size + 1, 1, none⟩ = some (.int .i64 x.f1) ∧ W.cell? ⟨w.heap.size, 2, none⟩ = some (.slice (some ad) ws.length c3) from fun W hb => ⟨below_cell hb x0, below_cell hb x1, below_cell hb q2⟩)
  generalize placeOf l x.f0 = z at hpl ⊢
  generalize lvlOk x.f1 = bl at hlv HLV ⊢
  generalize ((ws.take i).any fun y => decide (y.f0 = x.f0)) = bt at hcf HCF ⊢
  have hi3 : (i : Int) ≤ (c3 : Int) := by omega
  generalize ws.length = n3 at *
  generalize l.length = n0 at *
  clear hr hw hx hxe hlv hcf hb12 hb2
  have hmf : ∀ (fn : Fn) (first cap : Array Value) (w : World), (Instr.makeFunc fn first cap).run Tryz.prog w = .ok (.func fn first cap) w := fun _ _ _ _ => rfl
  subst hW2
  subst hW1
  by_cases hz : z < 0
  · rw [if_pos hz]
    go_enter Tryz.func41, Tryz.ntmps41
    go_wp2_with (first | (go_at_call 42; refine hpl.mono ?_; rintro e w3 ⟨rfl, hb3⟩; obtain ⟨y0, y1, y2⟩ := HX.out w3 hb3; have HB3 := Aside0.mk hb3; clear hb3 x0 x1 q0 q1 q2))
    go_ret
    exact ⟨rfl, below_step HB2.out HB3.out⟩
  · rw [if_neg hz]
    cases bl with
    | false =>
      rw [if_neg (by simp)]
      go_enter Tryz.func41, Tryz.ntmps41
      go_wp2_with (first | (go_at_call 42; refine hpl.mono ?_; rintro e w3 ⟨rfl, hb3⟩; obtain ⟨y0, y1, y2⟩ := HX.out w3 hb3; have HB3 := Aside0.mk hb3; clear hb3 x0 x1 q0 q1 q2) | (go_at_call 29; refine (HLV.out w3).mono ?_; rintro e w4 ⟨rfl, hb4⟩; have HB4 := Aside0.mk (below_step HB3.out hb4); clear y0 y1 y2; obtain ⟨y0, y1, y2⟩ := HX.out w4 HB4.out; clear hb4))
      go_ret
      exact ⟨rfl, below_step HB2.out HB4.out⟩
    | true =>
      rw [if_pos rfl]
      cases bt with
      | true =>
        rw [if_pos rfl]
        go_enter Tryz.func41, Tryz.ntmps41
        go_wp2_with (first | (go_at_call 42; refine hpl.mono ?_; rintro e w3 ⟨rfl, hb3⟩; obtain ⟨y0, y1, y2⟩ := HX.out w3 hb3; have HB3 := Aside0.mk hb3; clear hb3 x0 x1 q0 q1 q2) | (go_at_call 29; refine (HLV.out w3).mono ?_; rintro e w4 ⟨rfl, hb4⟩; have HB4 := Aside0.mk (below_step HB3.out hb4); clear y0 y1 y2; obtain ⟨y0, y1, y2⟩ := HX.out w4 HB4.out; clear hb4) | (go_at_call 78; refine (HCF.out w4 HB4.out).mono ?_; rintro e w5 ⟨rfl, hb5⟩; have HB5 := Aside0.mk (below_step HB4.out hb5); clear hb5))
        go_ret
        exact ⟨rfl, below_step HB2.out HB5.out⟩
      | false =>
        rw [if_neg (by simp)]
        go_enter Tryz.func41, Tryz.ntmps41
        go_wp2_with (first | (go_at_call 42; refine hpl.mono ?_; rintro e w3 ⟨rfl, hb3⟩; obtain ⟨y0, y1, y2⟩ := HX.out w3 hb3; have HB3 := Aside0.mk hb3; clear hb3 x0 x1 q0 q1 q2) | (go_at_call 29; refine (HLV.out w3).mono ?_; rintro e w4 ⟨rfl, hb4⟩; have HB4 := Aside0.mk (below_step HB3.out hb4); clear y0 y1 y2; obtain ⟨y0, y1, y2⟩ := HX.out w4 HB4.out; clear hb4) | (go_at_call 78; refine (HCF.out w4 HB4.out).mono ?_; rintro e w5 ⟨rfl, hb5⟩; have HB5 := Aside0.mk (below_step HB4.out hb5); clear hb5))
        go_ret
        exact ⟨rfl, below_step HB2.out HB5.out⟩
end Go.Proofs.YtillhaipemengaaGreatDoor
end

section
namespace Go.Proofs.YtillhaipemengaaGreatDoor
open Go Go.RowKit Go.Proofs.YtillhaipemengaaGreatDoorW.PrintWords Go.Proofs.YtillhaipemengaaGreatDoorW.PrintLast
set_option linter.unusedVariables false
set_option linter.unusedSimpArgs false
def bitsA (n m : Nat) : Array Bool := ((List.range n).map fun i => m.testBit i).toArray
theorem bitsA_none (n : Nat) : Array.replicate n false = bitsA n 0 := by
  unfold bitsA
  rw [← List.toArray_replicate]
  congr 1
  refine (List.eq_replicate_iff.2 ⟨by simp, fun b hb => ?_⟩).symm
  obtain ⟨i, _, rfl⟩ := List.mem_map.1 hb
  exact Nat.zero_testBit i
section
variable {P : Program} {ops : Array Oper} {Q : Exit → Act → World → Prop} {S : World → Prop} {T : Bool × List (List Nat × List Nat)} {B : List Nat} {ds : List Nat} {n m fuel : Nat} {a : Act} {w : World}
theorem sX {id : Nat} (hT : rtab .any ops = T) (hB : waitsOk T.2 B = true) (hS : S w.drew)
    (h : Aside0 (rtab .any ops = T) → Aside0 (waitsOk T.2 B = true) → S w.drew → wpAnyLast P .any ops Q S ds n (bitsA n 0) a w.drew) (hm : P.follows .mixedOrders = true := by kernel_rfl) (hn : ops.size = n := by rfl) : (Code.region id ops true).wp P Q a w :=
  start_ (bitsA n 0) hm hn (bitsA_none n) hS (fun hh => h ⟨hT⟩ ⟨hB⟩ hh)
/-- An operation that looks at no memory. -/
theorem pX (HT : Aside0 (rtab .any ops = T)) (i m' d : Nat) {oi : Oper} {v : Value} {a' : Act} (h : wpAnyLast P .any ops Q S ds fuel (bitsA n m') a' w)
    (hi : ops[i]? = some oi := by rfl) (hN : oi.dst = some d := by rfl) (hc : anyT T (bitsA n m).toList (bitsA n m').toList i = true := by kernel_rfl) (hQ : ∀ c a w, Q (.panic c) (a.put oi.dst v) w → Q (.panic c) a w := by exact fun _ _ _ h => h)
    (hw : Region.wanted oi (yielded ops a.tmps) = true := by kernel_rfl) (hy : ∀ w, (execOp a.eval oi).run P w = .ok (.value v) w := by (intro w'; go_simp; with_reducible rfl))
    (ha : a.put (some d) v = a' := by (simp only [Act.put, List.setIfInBounds_toArray, List.set_cons_zero, List.set_cons_succ, i64_w, i32_w]; rfl)) : wpAnyLast P .any ops Q S ds (fuel + 1) (bitsA n m) a w :=
  pure_ (bitsA n m') hi hN (any_of HT.out hc) hQ (Or.inl ⟨hw, hy⟩) ha h
/-- A load of what S tells. -/
theorem tX (HT : Aside0 (rtab .any ops = T)) (HW : Aside0 (waitsOk T.2 B = true)) (hS : S w) (i m' d : Nat) {oi : Oper} {v : Value} {a' : Act} (h : wpAnyLast P .any ops Q S ds fuel (bitsA n m') a' w)
    (hi : ops[i]? = some oi := by rfl) (hN : oi.dst = some d := by rfl) (hc : takeW T B ds (bitsA n m).toList (bitsA n m').toList i = true := by kernel_rfl) (hQ : ∀ c a w, Q (.panic c) (a.put oi.dst v) w → Q (.panic c) a w := by exact fun _ _ _ h => h)
    (hw : Region.wanted oi (yielded ops a.tmps) = true := by kernel_rfl) (hy : ∀ w, S w → (execOp a.eval oi).run P w = .ok (.value v) w := by (intro w' hs_; (repeat (obtain ⟨_, hs_⟩ := hs_)); go_simp; with_reducible rfl))
    (ha : a.put (some d) v = a' := by (simp only [Act.put, List.setIfInBounds_toArray, List.set_cons_zero, List.set_cons_succ, i64_w, i32_w]; rfl)) : wpAnyLast P .any ops Q S ds (fuel + 1) (bitsA n m) a w :=
  take_ (bitsA n m') hi hN (take_ofW HT.out HW.out hc) hQ (Or.inl ⟨hw, hy⟩) hS ha h
/-- An operation whose guard is off. -/
theorem fX (HT : Aside0 (rtab .any ops = T)) (i m' d : Nat) {oi : Oper} {a' : Act} (h : wpAnyLast P .any ops Q S ds fuel (bitsA n m') a' w)
    (hi : ops[i]? = some oi := by rfl) (hN : oi.dst = some d := by rfl) (hc : anyT T (bitsA n m).toList (bitsA n m').toList i = true := by kernel_rfl) (hQ : ∀ c a w, Q (.panic c) (a.put oi.dst undef) w → Q (.panic c) a w := by exact fun _ _ _ h => h)
    (hw : Region.wanted oi (yielded ops a.tmps) = false := by kernel_rfl)
    (ha : a.put (some d) undef = a' := by (simp only [Act.put, List.setIfInBounds_toArray, List.set_cons_zero, List.set_cons_succ, i64_w, i32_w]; rfl)) : wpAnyLast P .any ops Q S ds (fuel + 1) (bitsA n m) a w :=
  pure_ (bitsA n m') hi hN (any_of HT.out hc) hQ (Or.inr ⟨hw, rfl⟩) ha h
/-- One operation alone may come up. -/
theorem oX (HT : Aside0 (rtab .any ops = T)) (i m' : Nat) (N : Option Tmp) {oi : Oper}
    (h : ∀ K : Act → World → Prop, Shut (∀ a' w', S w' → (S w' → wpAnyLast P .any ops Q S ds fuel (bitsA n m') a' w') → K a' w') → if Region.wanted oi (yielded ops a.tmps) = true then Oper.wp P oi a w K Q else K (a.put N undef) w)
    (hi : ops[i]? = some oi := by rfl) (hN : oi.dst = N := by rfl) (hc : (readyT T.2 (bitsA n m).toList == [i] && (bitsA n m).toList.set i true == (bitsA n m').toList) = true := by kernel_rfl) (hd : i ∉ ds := by decide) : wpAnyLast P .any ops Q S ds (fuel + 1) (bitsA n m) a w :=
  one_ (bitsA n m') hi hN (one_of HT.out hc) hd h
/-- A call of a Go function that alone may come up, by its contract. -/
theorem gX (HT : Aside0 (rtab .any ops = T)) (i m' d : Nat) {oi : Oper} {f : FuncId} {fn : Func} {xs : Array Operand} {ts : Array TypeId} (hf : P.funcs[f]? = some fn) {args : Array Value} {R : Ending → World → Prop} (C : Calls P f args w R)
    (h : ∀ e w', R e w' → ∃ v, e = .returned v ∧ ∃ a', a.put (some d) v = a' ∧ S w' ∧ (S w' → wpAnyLast P .any ops Q S ds fuel (bitsA n m') a' w'))
    (hi : ops[i]? = some oi := by rfl) (hN : oi.dst = some d := by rfl) (hop : oi.op = .call { callee := .value (.func f), args := xs, argTypes := ts } := by rfl) (hname : (fn.name == "runtime.NumGoroutine") = false := by kernel_rfl) (hb : fn.body.isSome = true := by rfl)
    (hw : Region.wanted oi (yielded ops a.tmps) = true := by kernel_rfl) (hargs : xs.map a.eval = args := by ((try simp only [List.map_toArray, List.map_cons, List.map_nil]); first | done | rfl))
    (hc : (readyT T.2 (bitsA n m).toList == [i] && (bitsA n m).toList.set i true == (bitsA n m').toList) = true := by kernel_rfl) (hd : i ∉ ds := by decide) : wpAnyLast P .any ops Q S ds (fuel + 1) (bitsA n m) a w :=
  oX HT i m' (some d) (fun K hK => goes_ hf hname hb args hw hN hop hargs (C.mono fun e w' hr => by
    obtain ⟨v, rfl, a', ha, hS, hh⟩ := h e w' hr
    exact ⟨v, rfl, hK.out _ _ hS (fun hs => by rw [ha]; exact hh hs)⟩)) hi hN hc hd
theorem eX (HT : Aside0 (rtab .any ops = T)) (h : Q .normal a w) (hc : (readyT T.2 (bitsA n m).toList == []) = true := by kernel_rfl) : wpAnyLast P .any ops Q S ds fuel (bitsA n m) a w := done_ (done_of HT.out hc) h
theorem nX {a a' : Act} (h : a = a' := by (simp only [Act.put, List.setIfInBounds_toArray, List.set_cons_zero, List.set_cons_succ, i64_w, i32_w]; rfl)) : a = a' := h
end
end Go.Proofs.YtillhaipemengaaGreatDoor
end

section
namespace Go.Proofs.YtillhaipemengaaGreatDoor
open Go Go.RowKit Go.Proofs.YtillhaipemengaaGreatDoorW.PrintWords Go.Proofs.YtillhaipemengaaGreatDoorW.PrintLast
set_option linter.unusedVariables false
set_option linter.unusedSimpArgs false
section
variable {P : Program} {ops : Array Oper} {rest : List Oper} {o : Oper} {a : Act} {K : Act → World → Prop} {Q : Exit → Act → World → Prop} {W : World} {g : Nat} {e : TypeId} {cur : Array Value}
theorem load_run {ty : TypeId} {p : Operand} {d : TypeDesc} (ho : o.op = .load ty p) (hp : a.eval p = .pointer (some ⟨g, 0, none⟩)) (hg : W.heap[g]? = some (.cells cur e (0, 0)))
    (hu : P.underlying ty = some d) (hd : (match d with | .struct _ | .array _ _ => true | _ => false) = true) (hi : (P.info? ty).map (·.size) = some cur.size) : (execOp a.eval o).run P W = .ok (.value (.agg cur)) W := by
  have h := run_loadVar_row W g e ty cur (0, 0) d hg hu hd hi
  unfold execOp
  simp only [ho, hp, Instr.loadAt, Instr.sureAddr, Sem.run_bind, Sem.run_pure, Result.andThen_ok, h]
/-- A struct is loaded whole. -/
theorem load_ev {ty : TypeId} {p : Operand} {d : TypeDesc} (ho : o.op = .load ty p) (hgd : o.guard = none) (hp : a.eval p = .pointer (some ⟨g, 0, none⟩)) (hg : W.heap[g]? = some (.cells cur e (0, 0)))
    (hu : P.underlying ty = some d) (hd : (match d with | .struct _ | .array _ _ => true | _ => false) = true) (hi : (P.info? ty).map (·.size) = some cur.size) (h : wpList P ops Q rest (a.put o.dst (.agg cur)) W) : wpList P ops Q (o :: rest) a W :=
  Kd.event_run hgd (load_run ho hp hg hu hd hi) h
/-- A struct within a block is loaded. -/
theorem load_mid_ev {ty : TypeId} {p : Operand} {d : TypeDesc} {i : Nat} (ho : o.op = .load ty p) (hgd : o.guard = none) (hp : a.eval p = .pointer (some ⟨g, i, none⟩)) (hg : W.heap[g]? = some (.cells cur e (0, 0))) {seg : List Value} (hs : (cur.toList.drop i).take seg.length = seg)
    (hu : P.underlying ty = some d) (hd : d.isRow = true) (hi : (P.info? ty).map (·.size) = some seg.length) (h : wpList P ops Q rest (a.put o.dst (.agg seg.toArray)) W) : wpList P ops Q (o :: rest) a W := by
  refine Kd.event_run hgd ?_ h
  have hc : W.rangeAt g i seg := fun j v hv => by
    rw [blk_cell hg, ← Array.getElem?_toList]
    rw [← hs, List.getElem?_take] at hv
    split at hv
    · rwa [List.getElem?_drop] at hv
    · cases hv
  unfold execOp
  simp only [ho, hp, run_loadAt_mid W g i ty seg d hc hu hd hi, Sem.run_bind, Sem.run_pure, Result.andThen_ok]
theorem store_run (t : TypeId) (p x : Operand) (ho : o.op = .store t p x) (i : Nat) (seg : List Value) {u : Value} (hh : W.heap[g]? = some (.cells cur e (0, 0))) (haddr : a.eval p = .pointer (some ⟨g, i, none⟩)) (hx : a.eval x = u) (hu : u.cells.toList = seg) (ht : (P.info? t).map (·.size) = some seg.length) (hfit : i + seg.length ≤ cur.size) (h1 : ∀ q ∈ seg, q.oneCell' = true) :
    ∃ w1, (execOp a.eval o).run P W = .ok .skip w1 ∧ w1.heap[g]? = some (.cells (cur.toList.take i ++ (seg ++ cur.toList.drop (i + seg.length))).toArray e (0, 0)) ∧ W.grownBy w1 (some g) := by
  have hrun := run_store_run (P := P) (w := W) (o := i) t u seg hh hu ht (by omega) h1
  obtain ⟨cur', h2, h3, h4⟩ := setCells_row seg i W cur hh (by omega)
  refine ⟨W.setCells g i seg, ?_, ?_, ?_⟩
  · unfold execOp
    simp only [ho, haddr, hx, Sem.run_bind, Sem.run_pure, Result.andThen_ok, hrun]
  · rw [h2]
    congr 2
    apply Array.ext'
    rw [h4]
    simp
  · obtain ⟨s1, s2, s3, s4⟩ := setCells_same g seg i W
    exact ⟨s1, s2, s3, by rw [s4]; exact Nat.le_refl _, fun j _ hj => setCells_far seg i j (fun e => hj (by rw [e]))⟩
/-- What is stored at a place of a block: the cells then are those of 'cs'. -/
theorem store_ev (t : TypeId) (p x : Operand) (ho : o.op = .store t p x) (hgd : o.guard = none) (hN : o.dst = none) (i : Nat) (seg : List Value) {u : Value} {cs : Array Value} (hh : W.heap[g]? = some (.cells cur e (0, 0))) (haddr : a.eval p = .pointer (some ⟨g, i, none⟩)) (hx : a.eval x = u) (hu : u.cells.toList = seg) (ht : (P.info? t).map (·.size) = some seg.length) (hfit : i + seg.length ≤ cur.size) (h1 : ∀ q ∈ seg, q.oneCell' = true)
    (hcs : (cur.toList.take i ++ (seg ++ cur.toList.drop (i + seg.length))).toArray = cs)
    (h : ∀ w1, w1.heap[g]? = some (.cells cs e (0, 0)) → W.grownBy w1 (some g) → wpList P ops Q rest (a.put none undef) w1) : wpList P ops Q (o :: rest) a W := by
  obtain ⟨w1, hr, h2, h3⟩ := store_run (a := a) t p x ho i seg hh haddr hx hu ht hfit h1
  refine wpList_plain hgd fun K hK => ?_
  unfold Oper.wp
  rw [hr]
  show K (a.put o.dst undef) w1
  rw [hN]
  exact hK _ _ (h _ (hcs ▸ h2) h3)
theorem store_K (hw : Region.wanted o (yielded ops a.tmps) = true) (hN : o.dst = none) (t : TypeId) (p x : Operand) (ho : o.op = .store t p x) (i : Nat) (seg : List Value) {u : Value} {cs : Array Value} (hh : W.heap[g]? = some (.cells cur e (0, 0))) (haddr : a.eval p = .pointer (some ⟨g, i, none⟩)) (hx : a.eval x = u) (hu : u.cells.toList = seg) (ht : (P.info? t).map (·.size) = some seg.length) (hfit : i + seg.length ≤ cur.size) (h1 : ∀ q ∈ seg, q.oneCell' = true)
    (hcs : (cur.toList.take i ++ (seg ++ cur.toList.drop (i + seg.length))).toArray = cs)
    (h : ∀ w1, w1.heap[g]? = some (.cells cs e (0, 0)) → W.grownBy w1 (some g) → K (a.put none undef) w1) : if Region.wanted o (yielded ops a.tmps) = true then Oper.wp P o a W K Q else K (a.put none undef) W := by
  rw [if_pos hw]
  obtain ⟨w1, hr, h2, h3⟩ := store_run (a := a) t p x ho i seg hh haddr hx hu ht hfit h1
  unfold Oper.wp
  rw [hr]
  show K (a.put o.dst undef) w1
  rw [hN]
  exact h _ (hcs ▸ h2) h3
end
theorem twX {P : Program} {ops : Array Oper} {Q : Exit → Act → World → Prop} {S : World → Prop} {T : Bool × List (List Nat × List Nat)} {ds : List Nat} {n m fuel : Nat} {a : Act} {w : World} (HT : Aside0 (rtab .any ops = T)) (i j mi mj : Nat) (Ni Nj : Option Tmp) {oi oj : Oper}
    (h1 : ∀ K : Act → World → Prop, Shut (∀ a' w', S w' → (S w' → wpAnyLast P .any ops Q S ds fuel (bitsA n mi) a' w') → K a' w') → if Region.wanted oi (yielded ops a.tmps) = true then Oper.wp P oi a w K Q else K (a.put Ni undef) w)
    (h2 : ∀ K : Act → World → Prop, Shut (∀ a' w', S w' → (S w' → wpAnyLast P .any ops Q S ds fuel (bitsA n mj) a' w') → K a' w') → if Region.wanted oj (yielded ops a.tmps) = true then Oper.wp P oj a w K Q else K (a.put Nj undef) w)
    (hi : ops[i]? = some oi := by rfl) (hj : ops[j]? = some oj := by rfl) (hNi : oi.dst = Ni := by rfl) (hNj : oj.dst = Nj := by rfl)
    (hc : (readyT T.2 (bitsA n m).toList == [i, j] && (bitsA n m).toList.set i true == (bitsA n mi).toList && (bitsA n m).toList.set j true == (bitsA n mj).toList) = true := by kernel_rfl) (hdi : i ∉ ds := by decide) (hdj : j ∉ ds := by decide) : wpAnyLast P .any ops Q S ds (fuel + 1) (bitsA n m) a w :=
  two_ (bitsA n mi) (bitsA n mj) hi hj hNi hNj (two_of HT.out hc) hdi hdj h1 h2
end Go.Proofs.YtillhaipemengaaGreatDoor
end
