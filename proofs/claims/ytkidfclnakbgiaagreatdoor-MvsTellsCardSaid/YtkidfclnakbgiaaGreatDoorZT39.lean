/- The texts MvLive, MvExt, PlD1 in one file, without what these claims do not use (put together by prune2.py). -/
import Derived.Test.YtkidfclnakbgiaaGreatDoorZT28
import Derived.Test.YtkidfclnakbgiaaGreatDoorZT38
import Derived.Test.YtkidfclnakbgiaaGreatDoorZT35
import Derived.Test.YtkidfclnakbgiaaGreatDoorZT15
import Derived.Test.YtkidfclnakbgiaaGreatDoorZT4
section
namespace Go.Proofs.YtkidfclnakbgiaaGreatDoor
open Go Go.RowKit Go.Proofs Go.Proofs.YtkidfclnakbgiaaGreatDoorW.PrintWords Go.Proofs.YtkidfclnakbgiaaGreatDoor.K0 Go.Proofs.YtkidfclnakbgiaaGreatDoor.RS
set_option linter.unusedVariables false
set_option linter.unusedSimpArgs false
def rq1 (p : UInt8) (n : Int) : Rq := ⟨⟨#[p]⟩, ⟨1, n, 0, ⟨#[]⟩, ⟨#[]⟩⟩⟩
def lvRoot : List Rq := [rq1 98 0, rq1 97 0]
def lvNodes : List Nd := [⟨rq1 97 0, [rq1 99 1]⟩, ⟨rq1 98 0, [rq1 99 2]⟩, ⟨rq1 99 2, [rq1 100 0]⟩, ⟨rq1 98 (-1), []⟩]
def lvX : List Rq := [rq1 97 0, rq1 98 0, rq1 99 2, rq1 100 0]
def lvU : List Rq := [rq1 98 0, rq1 97 3]
def lvD : List Rq := [rq1 97 0]
theorem lv_list : mv.list lvRoot (lvNodes.map ndP) = lvX := by decide +kernel
theorem lv_reached : (mv.reached lvRoot (lvNodes.map ndP)).length = 5 := by decide +kernel
theorem lv_up : mv.upgrade lvRoot (rq1 97 3) = lvU := by decide +kernel
theorem lv_up3 : (mv.upgrade lvRoot (rq1 122 0)).length = 3 := by decide +kernel
theorem lv_up2 : (mv.upgrade lvRoot (rq1 122 (-1))).length = 2 := by decide +kernel
theorem lv_down : mv.downgrade lvRoot (lvNodes.map ndP) (rq1 99 1) = lvD := by decide +kernel
theorem lv_univ : (Mv.univ lvRoot (lvNodes.map ndP)).length ≤ 1000000 := by decide +kernel
/-- What holds from here on, whatever is laid behind. -/
structure Up (w W : World) (P : World → Prop) : Prop where
  base : Below w.heap.size w W
  p : ∀ W', Below W.heap.size W W' → P W'
theorem Up.now {w W : World} {P : World → Prop} (h : Up w W P) : P W := h.p W (Below.refl _ _)
theorem Up.below {w W W' : World} {P : World → Prop} (h : Up w W P) (hb : Below W.heap.size W W') : Up w W' P := ⟨below_step h.base hb, fun _ h2 => h.p _ (below_step hb h2)⟩
theorem Up.add {w W : World} {P Q : World → Prop} (h : Up w W P) (hq : ∀ W', Below W.heap.size W W' → Q W') : Up w W (fun W' => P W' ∧ Q W') := ⟨h.base, fun _ h2 => ⟨h.p _ h2, hq _ h2⟩⟩
theorem Up.map {w W : World} {P Q : World → Prop} (h : Up w W P) (hq : ∀ W', P W' → Q W') : Up w W Q := ⟨h.base, fun _ h2 => hq _ (h.p _ h2)⟩
theorem Up.alloc {w W : World} {P : World → Prop} (h : Up w W P) (o : Obj) : Up w (W.alloc o) (fun W' => P W' ∧ W'.heap[W.heap.size]? = some o) :=
  (h.below (below_alloc (Below.refl _ _) o)).add fun W' h2 => by
    rw [h2.block _ (by simp)]; exact heap_alloc_new W o
theorem C_reqs {W : World} {B : Nat} (l : List Rq) (h : W.heap[B]? = some (.cells (rcs l).toArray 27 (0, 0))) (hb : l.length ≤ 9223372036854775807) : Kd.C k27 W (some ⟨B, 0, none⟩) l.length l := by
  refine ⟨rfl, hb, fun _ => ⟨_, rfl, fun j p hp => ⟨rcl p, rfl, k27_mk W p, fun i u hu => ?_⟩⟩⟩
  have hj : (⟨B, 0, none⟩ : Addr).add (j * k27.sz + i) = ⟨B, j * 6 + i, none⟩ := by
    show (⟨B, 0, none⟩ : Addr).add (j * 6 + i) = _
    unfold Addr.add
    split
    · rename_i h; rw [h]
    · simp
  rw [hj, cell_of_heap h]
  have e := rcs_at hp
  have hi : i < 6 := by
    have := (List.getElem?_eq_some_iff.1 hu).1
    simpa [rcl] using this
  rw [← e, List.getElem?_take, if_pos hi, List.getElem?_drop] at hu
  simpa using hu
abbrev cs1 (p : UInt8) (n : Int) : List Value := [.string ⟨#[p]⟩, .int .i64 1, .int .i64 n, .int .i64 0, .string ⟨#[]⟩, .string ⟨#[]⟩]
theorem C_nodes {W : World} {B b1 b2 b3 : Nat} (h1 : W.heap[b1]? = some (.cells (cs1 99 1).toArray 27 (0, 0))) (h2 : W.heap[b2]? = some (.cells (cs1 99 2).toArray 27 (0, 0))) (h3 : W.heap[b3]? = some (.cells (cs1 100 0).toArray 27 (0, 0)))
    (h : W.heap[B]? = some (.cells (cs1 97 0 ++ [Value.slice (some ⟨b1, 0, none⟩) 1 1] ++ cs1 98 0 ++ [Value.slice (some ⟨b2, 0, none⟩) 1 1] ++ cs1 99 2 ++ [Value.slice (some ⟨b3, 0, none⟩) 1 1] ++ cs1 98 (-1) ++ [Value.slice none 0 0]).toArray 48 (0, 0))) : Kd.C k48 W (some ⟨B, 0, none⟩) 4 lvNodes := by
  have hj : ∀ j i, (⟨B, 0, none⟩ : Addr).add (j * k48.sz + i) = ⟨B, j * 7 + i, none⟩ := fun j i => by
    show (⟨B, 0, none⟩ : Addr).add (j * 7 + i) = _
    unfold Addr.add
    split
    · rename_i h; rw [h]
    · simp
  have c1 := C_reqs [rq1 99 1] h1 (by decide)
  have c2 := C_reqs [rq1 99 2] h2 (by decide)
  have c3 := C_reqs [rq1 100 0] h3 (by decide)
  refine ⟨rfl, by decide, fun _ => ⟨_, rfl, fun j p hp => ?_⟩⟩
  match j, hp with
  | 0, hp =>
    obtain rfl := Option.some.inj hp
    refine ⟨_, rfl, k48_mk W ⟨rq1 97 0, [rq1 99 1]⟩ (Nat.le_refl 1) c1, fun i u hu => ?_⟩
    rw [hj, cell_of_heap h]
    match i, hu with
    | 0, hu | 1, hu | 2, hu | 3, hu | 4, hu | 5, hu | 6, hu => exact hu
  | 1, hp =>
    obtain rfl := Option.some.inj hp
    refine ⟨_, rfl, k48_mk W ⟨rq1 98 0, [rq1 99 2]⟩ (Nat.le_refl 1) c2, fun i u hu => ?_⟩
    rw [hj, cell_of_heap h]
    match i, hu with
    | 0, hu | 1, hu | 2, hu | 3, hu | 4, hu | 5, hu | 6, hu => exact hu
  | 2, hp =>
    obtain rfl := Option.some.inj hp
    refine ⟨_, rfl, k48_mk W ⟨rq1 99 2, [rq1 100 0]⟩ (Nat.le_refl 1) c3, fun i u hu => ?_⟩
    rw [hj, cell_of_heap h]
    match i, hu with
    | 0, hu | 1, hu | 2, hu | 3, hu | 4, hu | 5, hu | 6, hu => exact hu
  | 3, hp =>
    obtain rfl := Option.some.inj hp
    refine ⟨_, rfl, k48_mk W ⟨rq1 98 (-1), []⟩ (Nat.le_refl 0) (Kd.C_nil _ _), fun i u hu => ?_⟩
    rw [hj, cell_of_heap h]
    match i, hu with
    | 0, hu | 1, hu | 2, hu | 3, hu | 4, hu | 5, hu | 6, hu => exact hu
theorem req_calls (p : ByteArray) (n : Int) (w : World) : Calls Tryz.prog 29 #[.string p, .int .i64 n] w fun e w' => e = .returned (.agg #[.string p, .int .i64 1, .int .i64 n, .int .i64 0, .string ⟨#[]⟩, .string ⟨#[]⟩]) ∧ Below w.heap.size w w' := by
  go_enter Tryz.func29, Tryz.ntmps29
  go_wp2
  have h0 := heap_alloc_new w (.cells #[.string p, .int .i64 1, .int .i64 n, .int .i64 0, .string ⟨#[]⟩, .string ⟨#[]⟩] 27)
  refine bodyPost_ret (results_cell_row rfl _ _ w.heap.size 27 _ (0, 0) _ rfl h0 Tryz.underlying27 rfl (by kernel_rfl)) rfl ⟨rfl, below_alloc (Below.refl _ _) _⟩
/-- What the walk knows: the roots, the nodes. -/
structure LvA (w W : World) (a b : Nat) (P : World → Prop) : Prop where
  up : Up w W fun W' => (Kd.C k27 W' (some ⟨a, 0, none⟩) 2 lvRoot ∧ Kd.C k48 W' (some ⟨b, 0, none⟩) 4 lvNodes) ∧ P W'
theorem LvA.below {w W W' : World} {a b : Nat} {P : World → Prop} (h : LvA w W a b P) (hb : Below W.heap.size W W') : LvA w W' a b P := ⟨h.up.below hb⟩
theorem LvA.add {w W : World} {a b : Nat} {P Q : World → Prop} (h : LvA w W a b P) (hq : ∀ W', Below W.heap.size W W' → Q W') : LvA w W a b (fun W' => P W' ∧ Q W') := ⟨(h.up.add hq).map fun _ h => ⟨h.1.1, h.1.2, h.2⟩⟩
theorem res_of {W w' : World} {v : Value} {b : Nat} {l : List Rq} (h : Kd.R k27 27 w' b (fun _ => True) v l) : ∃ A c, v = .slice A l.length c ∧ l.length ≤ c ∧ Kd.C k27 w' A l.length l := Kd.R_reads h
theorem lvw_list {w W : World} {a b : Nat} {P : World → Prop} (h : LvA w W a b P) (hG : GW W) : Calls Tryz.prog 17 #[.slice (some ⟨a, 0, none⟩) 2 2, .slice (some ⟨b, 0, none⟩) 4 4] W fun e w' => ∃ A c, e = .returned (.slice A 4 c) ∧ 4 ≤ c ∧ Kd.C k27 w' A 4 lvX ∧ Below W.heap.size W w' := by
  refine (mvs_List.calls _ _ lvRoot _ _ lvNodes lvX W h.up.now.1.1 (Nat.le_refl 2) h.up.now.1.2 (Nat.le_refl 4) hG ?_).mono ?_
  · unfold mvs_List.f; rw [if_pos lv_univ, lv_list]
  · rintro e w' ⟨v, rfl, hR, hb⟩
    obtain ⟨A, c, rfl, hc, hC⟩ := res_of (W := W) hR
    exact ⟨A, c, rfl, hc, hC, hb⟩
theorem lvw_reached {w W : World} {a b : Nat} {P : World → Prop} (h : LvA w W a b P) (hG : GW W) : Calls Tryz.prog 15 #[.slice (some ⟨a, 0, none⟩) 2 2, .slice (some ⟨b, 0, none⟩) 4 4] W fun e w' => ∃ A c, e = .returned (.slice A 5 c) ∧ Below W.heap.size W w' := by
  refine (mvs_Reached.calls _ _ lvRoot _ _ lvNodes _ W h.up.now.1.1 (Nat.le_refl 2) h.up.now.1.2 (Nat.le_refl 4) hG (by unfold mvs_Reached.f; rw [if_pos lv_univ])).mono ?_
  rintro e w' ⟨v, rfl, hR, hb⟩
  obtain ⟨A, c, rfl, hc, hC⟩ := res_of (W := W) hR
  rw [lv_reached]
  exact ⟨A, c, rfl, hb⟩
theorem lvw_up {w W : World} {a b : Nat} {P : World → Prop} (h : LvA w W a b P) (hG : GW W) : Calls Tryz.prog 19 #[.slice (some ⟨a, 0, none⟩) 2 2, .agg #[.string ⟨#[97]⟩, .int .i64 1, .int .i64 3, .int .i64 0, .string ⟨#[]⟩, .string ⟨#[]⟩]] W fun e w' => ∃ A c, e = .returned (.slice A 2 c) ∧ 2 ≤ c ∧ Kd.C k27 w' A 2 lvU ∧ Below W.heap.size W w' := by
  refine (mvs_Upgrade.calls _ _ lvRoot ⟨#[97]⟩ 1 3 0 ⟨#[]⟩ ⟨#[]⟩ lvU W h.up.now.1.1 (Nat.le_refl 2) hG ?_).mono ?_
  · unfold mvs_Upgrade.f; rw [if_pos (by decide)]; exact congrArg some lv_up
  · rintro e w' ⟨v, rfl, hR, hb⟩
    obtain ⟨A, c, rfl, hc, hC⟩ := res_of (W := W) hR
    exact ⟨A, c, rfl, hc, hC, hb⟩
theorem lvw_up3 {w W : World} {a b : Nat} {P : World → Prop} (h : LvA w W a b P) (hG : GW W) : Calls Tryz.prog 19 #[.slice (some ⟨a, 0, none⟩) 2 2, .agg #[.string ⟨#[122]⟩, .int .i64 1, .int .i64 0, .int .i64 0, .string ⟨#[]⟩, .string ⟨#[]⟩]] W fun e w' => ∃ A c, e = .returned (.slice A 3 c) ∧ Below W.heap.size W w' := by
  refine (mvs_Upgrade.calls _ _ lvRoot ⟨#[122]⟩ 1 0 0 ⟨#[]⟩ ⟨#[]⟩ (mv.upgrade lvRoot (rq1 122 0)) W h.up.now.1.1 (Nat.le_refl 2) hG (by unfold mvs_Upgrade.f; rw [if_pos (by decide)]; rfl)).mono ?_
  rintro e w' ⟨v, rfl, hR, hb⟩
  obtain ⟨A, c, rfl, hc, hC⟩ := res_of (W := W) hR
  rw [lv_up3]
  exact ⟨A, c, rfl, hb⟩
theorem lvw_up2 {w W : World} {a b : Nat} {P : World → Prop} (h : LvA w W a b P) (hG : GW W) : Calls Tryz.prog 19 #[.slice (some ⟨a, 0, none⟩) 2 2, .agg #[.string ⟨#[122]⟩, .int .i64 1, .int .i64 (-1), .int .i64 0, .string ⟨#[]⟩, .string ⟨#[]⟩]] W fun e w' => ∃ A c, e = .returned (.slice A 2 c) ∧ Below W.heap.size W w' := by
  refine (mvs_Upgrade.calls _ _ lvRoot ⟨#[122]⟩ 1 (-1) 0 ⟨#[]⟩ ⟨#[]⟩ (mv.upgrade lvRoot (rq1 122 (-1))) W h.up.now.1.1 (Nat.le_refl 2) hG (by unfold mvs_Upgrade.f; rw [if_pos (by decide)]; rfl)).mono ?_
  rintro e w' ⟨v, rfl, hR, hb⟩
  obtain ⟨A, c, rfl, hc, hC⟩ := res_of (W := W) hR
  rw [lv_up2]
  exact ⟨A, c, rfl, hb⟩
theorem lvw_down {w W : World} {a b : Nat} {P : World → Prop} (h : LvA w W a b P) (hG : GW W) : Calls Tryz.prog 21 #[.slice (some ⟨a, 0, none⟩) 2 2, .slice (some ⟨b, 0, none⟩) 4 4, .agg #[.string ⟨#[99]⟩, .int .i64 1, .int .i64 1, .int .i64 0, .string ⟨#[]⟩, .string ⟨#[]⟩]] W fun e w' => ∃ A c, e = .returned (.slice A 1 c) ∧ 1 ≤ c ∧ Kd.C k27 w' A 1 lvD ∧ Below W.heap.size W w' := by
  refine (mvs_Downgrade.calls _ _ lvRoot _ _ lvNodes ⟨#[99]⟩ 1 1 0 ⟨#[]⟩ ⟨#[]⟩ lvD W h.up.now.1.1 (Nat.le_refl 2) h.up.now.1.2 (Nat.le_refl 4) hG ?_).mono ?_
  · unfold mvs_Downgrade.f; rw [if_pos (by decide +kernel)]; exact congrArg some lv_down
  · rintro e w' ⟨v, rfl, hR, hb⟩
    obtain ⟨A, c, rfl, hc, hC⟩ := res_of (W := W) hR
    exact ⟨A, c, rfl, hc, hC, hb⟩
theorem same_x : armadaref17_Same.f 10 lvX lvX = some true := by decide +kernel
theorem same_u : armadaref17_Same.f 10 lvU lvU = some true := by decide +kernel
theorem same_d : armadaref17_Same.f 10 lvD lvD = some true := by decide +kernel
theorem lvw_same {w W : World} {P : World → Prop} (l : List Rq) (hU : Up w W P) (A : Option Addr) (c : Nat) (hl : l.length ≤ c) (hC : ∀ W', P W' → Kd.C k27 W' A l.length l) (hs : armadaref17_Same.f 10 l l = some true) (hb : l.length ≤ 9223372036854775807) :
    Calls Tryz.prog 14 #[.slice A l.length c, .slice (some ⟨W.heap.size, 0, none⟩) l.length l.length] (W.alloc (.cells (rcs l).toArray 27)) fun e w' => e = .returned (.bool true) ∧ Below W.heap.size W w' := by
  refine (armadaref17_Same.calls 10 A c l (some ⟨W.heap.size, 0, none⟩) l.length l true _ (hC _ (hU.p _ (below_alloc (Below.refl _ _) _))) hl (C_reqs l (heap_alloc_new W _) hb) (Nat.le_refl _) hs).mono fun e w' h => ⟨h.1, ?_⟩
  exact below_step (below_alloc (Below.refl _ _) _) h.2.below
theorem lvw_sx {w W : World} {P : World → Prop} (hU : Up w W P) (A : Option Addr) (c : Nat) (hl : 4 ≤ c) (hC : ∀ W', P W' → Kd.C k27 W' A 4 lvX) :
    Calls Tryz.prog 14 #[.slice A 4 c, .slice (some ⟨W.heap.size, 0, none⟩) 4 4] (W.alloc (.cells #[.string ⟨#[97]⟩, .int .i64 1, .int .i64 0, .int .i64 0, .string ⟨#[]⟩, .string ⟨#[]⟩, .string ⟨#[98]⟩, .int .i64 1, .int .i64 0, .int .i64 0, .string ⟨#[]⟩, .string ⟨#[]⟩, .string ⟨#[99]⟩, .int .i64 1, .int .i64 2, .int .i64 0, .string ⟨#[]⟩, .string ⟨#[]⟩, .string ⟨#[100]⟩, .int .i64 1, .int .i64 0, .int .i64 0, .string ⟨#[]⟩, .string ⟨#[]⟩] 27)) fun e w' => e = .returned (.bool true) ∧ Below W.heap.size W w' :=
  lvw_same lvX hU A c hl hC same_x (by decide)
theorem lvw_su {w W : World} {P : World → Prop} (hU : Up w W P) (A : Option Addr) (c : Nat) (hl : 2 ≤ c) (hC : ∀ W', P W' → Kd.C k27 W' A 2 lvU) :
    Calls Tryz.prog 14 #[.slice A 2 c, .slice (some ⟨W.heap.size, 0, none⟩) 2 2] (W.alloc (.cells #[.string ⟨#[98]⟩, .int .i64 1, .int .i64 0, .int .i64 0, .string ⟨#[]⟩, .string ⟨#[]⟩, .string ⟨#[97]⟩, .int .i64 1, .int .i64 3, .int .i64 0, .string ⟨#[]⟩, .string ⟨#[]⟩] 27)) fun e w' => e = .returned (.bool true) ∧ Below W.heap.size W w' :=
  lvw_same lvU hU A c hl hC same_u (by decide)
theorem lvw_sd {w W : World} {P : World → Prop} (hU : Up w W P) (A : Option Addr) (c : Nat) (hl : 1 ≤ c) (hC : ∀ W', P W' → Kd.C k27 W' A 1 lvD) :
    Calls Tryz.prog 14 #[.slice A 1 c, .slice (some ⟨W.heap.size, 0, none⟩) 1 1] (W.alloc (.cells #[.string ⟨#[97]⟩, .int .i64 1, .int .i64 0, .int .i64 0, .string ⟨#[]⟩, .string ⟨#[]⟩] 27)) fun e w' => e = .returned (.bool true) ∧ Below W.heap.size W w' :=
  lvw_same lvD hU A c hl hC same_d (by decide)
set_option maxRecDepth 100000 in
set_option maxHeartbeats 4000000 in
theorem live_walk (w : World) (hG : GW w) : Calls Tryz.prog 12 #[] w fun e w' => e = .returned (.bool true) ∧ Below w.heap.size w w' := by
  have HG := Aside0.mk hG
  clear hG
  have HP := Aside0.mk (Up.mk (Below.refl w.heap.size w) (fun _ _ => trivial) : Up w w fun _ => True)
  go_enter Tryz.func12, Tryz.ntmps12
  go_wp2_with (go_at_call 29; refine (req_calls _ _ _).mono ?_; rintro e w1 ⟨rfl, hb⟩; (first | have HN := Aside0.mk (HP.out.below hb) | have HN := Aside0.mk ((HP.out.alloc _).below hb)); clear HP hb; have HP := HN; clear HN)
  have HQ := Aside0.mk (HP.out.alloc (.cells #[.string ⟨#[98]⟩, .int .i64 1, .int .i64 0, .int .i64 0, .string ⟨#[]⟩, .string ⟨#[]⟩, .string ⟨#[97]⟩, .int .i64 1, .int .i64 0, .int .i64 0, .string ⟨#[]⟩, .string ⟨#[]⟩] 27))
  have hA : ∀ (W : World) (a b : Nat) (b1 b2 b3 : Nat), Up w W (fun W' => ((((True ∧ W'.heap[b1]? = some (.cells (cs1 99 1).toArray 27 (0, 0))) ∧ W'.heap[b2]? = some (.cells (cs1 99 2).toArray 27 (0, 0))) ∧ W'.heap[b3]? = some (.cells (cs1 100 0).toArray 27 (0, 0))) ∧ W'.heap[b]? = some (.cells (cs1 97 0 ++ [Value.slice (some ⟨b1, 0, none⟩) 1 1] ++ cs1 98 0 ++ [Value.slice (some ⟨b2, 0, none⟩) 1 1] ++ cs1 99 2 ++ [Value.slice (some ⟨b3, 0, none⟩) 1 1] ++ cs1 98 (-1) ++ [Value.slice none 0 0]).toArray 48 (0, 0))) ∧ W'.heap[a]? = some (.cells (rcs lvRoot).toArray 27 (0, 0))) → LvA w W a b fun _ => True :=
    fun W a b b1 b2 b3 h => ⟨h.map fun W' h => ⟨⟨C_reqs lvRoot h.2 (by decide), C_nodes h.1.1.1.1.2 h.1.1.1.2 h.1.1.2 h.1.2⟩, trivial⟩⟩
  have HA := Aside0.mk (hA _ _ _ _ _ _ HQ.out)
  clear hA HQ HP
  go_wp2_with (first
    | (go_at_call 29; refine (req_calls _ _ _).mono ?_; rintro e w2 ⟨rfl, hb⟩; have HN := Aside0.mk (HA.out.below hb); clear HA hb; have HA := HN; clear HN)
    | (go_at_call 17; with_reducible refine (lvw_list HA.out (HG.out.below HA.out.up.base)).mono ?_; rintro e w3 ⟨A3, c3, rfl, hc, hC, hb⟩; have HN := Aside0.mk ((HA.out.below hb).add (Q := fun W' => Kd.C k27 W' A3 4 lvX) (fun W' h => Kd.C_below hC h)); clear HA hb hC; have HA := HN; clear HN; have HC3 := Aside0.mk hc; clear hc)
    | (go_at_call 19; with_reducible refine (lvw_up HA.out (HG.out.below HA.out.up.base)).mono ?_; rintro e w4 ⟨A4, c4, rfl, hc, hC, hb⟩; have HN := Aside0.mk ((HA.out.below hb).add (Q := fun W' => Kd.C k27 W' A4 2 lvU) (fun W' h => Kd.C_below hC h)); clear HA hb hC; have HA := HN; clear HN; have HC4 := Aside0.mk hc; clear hc)
    | (go_at_call 21; with_reducible refine (lvw_down HA.out (HG.out.below HA.out.up.base)).mono ?_; rintro e w5 ⟨A5, c5, rfl, hc, hC, hb⟩; have HN := Aside0.mk ((HA.out.below hb).add (Q := fun W' => Kd.C k27 W' A5 1 lvD) (fun W' h => Kd.C_below hC h)); clear HA hb hC; have HA := HN; clear HN; have HC5 := Aside0.mk hc; clear hc)
    | (go_at_call 14; with_reducible refine (lvw_sx HA.out.up A3 c3 HC3.out (fun W' h => h.2.1.1.2)).mono ?_; rintro e w13 ⟨rfl, hb⟩; have HN := Aside0.mk (HA.out.below hb); clear HA hb; have HA := HN; clear HN)
    | (go_at_call 15; with_reducible refine (lvw_reached HA.out (HG.out.below HA.out.up.base)).mono ?_; rintro e w6 ⟨A6, c6, rfl, hb⟩; have HN := Aside0.mk (HA.out.below hb); clear HA hb; have HA := HN; clear HN)
    | (go_at_call 14; with_reducible refine (lvw_su HA.out.up A4 c4 HC4.out (fun W' h => h.2.1.2)).mono ?_; rintro e w14 ⟨rfl, hb⟩; have HN := Aside0.mk (HA.out.below hb); clear HA hb; have HA := HN; clear HN)
    | (go_at_call 14; with_reducible refine (lvw_sd HA.out.up A5 c5 HC5.out (fun W' h => h.2.2)).mono ?_; rintro e w15 ⟨rfl, hb⟩; have HN := Aside0.mk (HA.out.below hb); clear HA hb; have HA := HN; clear HN)
    | (go_at_call 19; with_reducible refine (lvw_up3 HA.out (HG.out.below HA.out.up.base)).mono ?_; rintro e w7 ⟨A7, c7, rfl, hb⟩; have HN := Aside0.mk (HA.out.below hb); clear HA hb; have HA := HN; clear HN)
    | (go_at_call 19; with_reducible refine (lvw_up2 HA.out (HG.out.below HA.out.up.base)).mono ?_; rintro e w8 ⟨A8, c8, rfl, hb⟩; have HN := Aside0.mk (HA.out.below hb); clear HA hb; have HA := HN; clear HN))
  go_ret
  exact ⟨rfl, HA.out.up.base⟩
end Go.Proofs.YtkidfclnakbgiaaGreatDoor
end

section
namespace Go.Proofs.YtkidfclnakbgiaaGreatDoor
open Go Go.RowKit Go.Proofs Go.Proofs.YtkidfclnakbgiaaGreatDoorW.PrintWords Go.Proofs.YtkidfclnakbgiaaGreatDoor.K0
def armadalaw17_live.f : Option Bool := some true
theorem armadalaw17_live.calls (r : Bool) (w : World) (hG : GW w) (hT : r = true) (h : armadalaw17_live.f = some r) : Calls Tryz.prog 12 #[] w fun e w' => e = .returned (.bool r) ∧ Below w.heap.size w w' := by
  subst hT
  exact live_walk w hG
end Go.Proofs.YtkidfclnakbgiaaGreatDoor
end

section
namespace Go.Proofs.YtkidfclnakbgiaaGreatDoor
open Go Go.RowKit Go.Proofs.YtkidfclnakbgiaaGreatDoorW.PrintWords Go.Proofs.YtkidfclnakbgiaaGreatDoor.K0 Go.Proofs.YtkidfclnakbgiaaGreatDoor.R1 Go.Proofs.YtkidfclnakbgiaaGreatDoor.RD
set_option linter.unusedVariables false
set_option linter.unusedSimpArgs false
/-- Splitting: the reference's loop. -/
theorem ref_split_from (c : UInt8) (s : ByteArray) (hs : s.size ≤ 4294967295) : ∀ (d n fr k : Nat) (acc : List ByteArray), s.size + 1 - n = d → n ≤ s.size + 1 → fr ≤ n → (n ≤ s.size ∨ fr = n) → (n ≤ s.size → c ∉ (s.extract fr n).data.toList) → acc.length + d ≤ 4294967296 → d < k →
    armadaref05_Split.l0 k s (c.toNat : Int) acc (fr : Int) (n : Int) = some (if n ≤ s.size then acc ++ splitBy c (s.extract fr s.size) else acc) := by
  intro d
  induction d with
  | zero =>
    intro n fr k acc hd hn hf _ _ _ hk
    obtain ⟨k, rfl⟩ : ∃ m, k = m + 1 := ⟨k - 1, by omega⟩
    simp only [armadaref05_Split.l0]
    rw [if_neg (by omega), if_neg (by omega)]
  | succ d ih =>
    intro n fr k acc hd hn hf hor hc hacc hk
    obtain ⟨k, rfl⟩ : ∃ m, k = m + 1 := ⟨k - 1, by omega⟩
    have hns : n ≤ s.size := by omega
    simp only [armadaref05_Split.l0]
    rw [if_pos (by omega), if_pos hns]
    have hw := wrap_succ (n := n) (by omega)
    have hcn := hc hns
    by_cases he : n = s.size
    · rw [if_pos (by omega), if_pos (by omega), if_pos (by omega), if_pos (by omega), hw]
      rw [ih (n + 1) (n + 1) k _ (by omega) (by omega) (by omega) (.inr rfl) (fun h => by omega) (by rw [List.length_append]; simp; omega) (by omega)]
      rw [if_neg (by omega)]
      congr 2
      subst he
      have hx : (s.extract fr s.size) = s.extract ((fr : Int)).toNat ((s.size : Int)).toNat := rfl
      unfold splitBy
      rw [splitC_none hcn]
      rfl
    · have hlt : n < s.size := by omega
      obtain ⟨b, hb, hd2⟩ := scan hlt
      rw [if_neg (by omega), if_pos (by omega), if_pos (by omega), hb]
      have hext : (s.extract fr s.size).data.toList = (s.extract fr n).data.toList ++ b :: s.data.toList.drop (n + 1) := by
        rw [Lib.extract_data, Lib.extract_data, ← hd2]
        have e1 : List.take (s.size - fr) (List.drop fr s.data.toList) = List.drop fr s.data.toList := List.take_of_length_le (by rw [List.length_drop, ← Lib.size_eq]; omega)
        rw [e1]
        have e2 : s.data.toList.drop n = (s.data.toList.drop fr).drop (n - fr) := by rw [List.drop_drop]; congr 1; omega
        rw [e2, List.take_append_drop]
      by_cases hbc : b = c
      · subst hbc
        rw [if_pos rfl, if_pos (by omega), if_pos (by omega), if_pos (by omega), hw]
        rw [ih (n + 1) (n + 1) k _ (by omega) (by omega) (by omega) (.inr rfl) (fun h => by rw [Lib.extract_data]; simp) (by rw [List.length_append]; simp; omega) (by omega)]
        rw [if_pos (by omega)]
        congr 1
        rw [List.append_assoc]
        congr 1
        unfold splitBy
        rw [hext, splitC_at _ hcn, List.map_cons]
        have e3 : ba (s.extract fr n).data.toList = s.extract ((fr : Int)).toNat ((n : Int)).toNat := rfl
        rw [e3]
        have e4 : (s.extract (n + 1) s.size).data.toList = s.data.toList.drop (n + 1) := Lib.extract_to_end s (n + 1)
        rw [e4]
        rfl
      · have hne : ¬ ((b.toNat : Int) = (c.toNat : Int)) := fun e => hbc (UInt8.toNat_inj.1 (by omega))
        rw [if_neg hne, hw]
        rw [ih (n + 1) fr k _ (by omega) (by omega) (by omega) (.inl (by omega)) (fun h => by
          have e5 : (s.extract fr (n + 1)).data.toList = (s.extract fr n).data.toList ++ [b] := by
            rw [Lib.extract_data, Lib.extract_data]
            have e6 : n + 1 - fr = (n - fr) + 1 := by omega
            rw [e6]
            have e7 : (s.data.toList.drop fr)[n - fr]? = some b := by
              rw [List.getElem?_drop]
              have : s.data.toList[fr + (n - fr)]? = (s.data.toList.drop n)[0]? := by rw [List.getElem?_drop]; congr 1; omega
              rw [this, hd2]; rfl
            rw [List.take_add_one, e7]; rfl
          rw [e5]
          intro hm
          rcases List.mem_append.1 hm with hm | hm
          · exact hcn hm
          · exact hbc (List.mem_singleton.1 hm).symm) (by omega) (by omega)]
        rw [if_pos (by omega)]
theorem ref_split (c : UInt8) (s : ByteArray) (hs : s.size ≤ 4294967290) (k : Nat) (hk : s.size + 1 < k) : armadaref05_Split.f k s (c.toNat : Int) = some (splitBy c s) := by
  unfold armadaref05_Split.f
  have h := ref_split_from c s (by omega) (s.size + 1) 0 0 k [] (by omega) (by omega) (by omega) (.inr rfl) (fun _ => by rw [Lib.extract_data]; simp) (by simp; omega) hk
  rw [if_pos (by omega)] at h
  have e : s.extract 0 s.size = s := by
    apply by_data
    rw [Lib.extract_to_end]; rfl
  rw [e, List.nil_append] at h
  exact h
theorem ref_part_l0 (s : ByteArray) (hs : s.size ≤ 4294967290) : ∀ (d n k : Nat), s.size - n = d → n ≤ s.size → d < k →
    armadaref05_part.l0 k s (n : Int) = some ((s.data.toList.drop n).all isPlain && partFin s.data.toList) := by
  intro d
  induction d with
  | zero =>
    intro n k hd hn hk
    obtain ⟨k, rfl⟩ : ∃ m, k = m + 1 := ⟨k - 1, by omega⟩
    simp only [armadaref05_part.l0]
    rw [if_neg (by omega), scan_end (by omega), ByteArray.toList_eq]
    by_cases h1 : s.data.toList = []
    · rw [if_pos h1]; simp [h1, partFin]
    · rw [if_neg h1]
      by_cases h2 : s.data.toList = [46]
      · rw [if_pos h2]; simp [h2, partFin]
      · rw [if_neg h2]
        by_cases h3 : s.data.toList = [46, 46] <;> simp [h1, h2, h3, bne, partFin]
  | succ d ih =>
    intro n k hd hn hk
    obtain ⟨k, rfl⟩ : ∃ m, k = m + 1 := ⟨k - 1, by omega⟩
    obtain ⟨b, hb, hd2⟩ := scan (s := s) (n := n) (by omega)
    simp only [armadaref05_part.l0]
    rw [if_pos (by omega), if_pos (by omega), hb, wrap_succ (by omega), ih (n + 1) k (by omega) (by omega) (by omega), hd2, List.all_cons, Bool.and_assoc]
    generalize ((s.data.toList.drop (n + 1)).all isPlain && partFin s.data.toList) = X
    have hm := b.toNat_lt
    clear ih hd2 hb hd hk hs hn
    unfold isPlain
    generalize b.toNat = m at hm ⊢
    revert X
    revert m
    decide +kernel
theorem ref_part_f (s : ByteArray) (hs : s.size ≤ 4294967290) (k : Nat) (hk : s.size < k) : armadaref05_part.f k s = some (partOk s.data.toList) := by
  unfold armadaref05_part.f partOk
  rw [show (0 : Int) = ((0 : Nat) : Int) from rfl, ref_part_l0 s hs s.size 0 k (by omega) (by omega) hk]
  simp
end Go.Proofs.YtkidfclnakbgiaaGreatDoor
end
