/- The texts EdPl, EdFns, RSx0, RSx1, RSx2, RSx3, RSx4, RSx, EdFew in one file, without what these claims do not use (put together by prune2.py). -/
import Derived.Test.YtmbpefnhkimplaaGreatDoorZE39
import Derived.Test.YtmbpefnhkimplaaGreatDoorZE40
import Derived.Test.YtmbpefnhkimplaaGreatDoorZE5
import Derived.Test.YtmbpefnhkimplaaGreatDoorZE7
import Derived.Test.YtmbpefnhkimplaaGreatDoorZE4
section
namespace Go.Proofs.YtmbpefnhkimplaaGreatDoor
open Go Go.RowKit Go.Proofs.YtmbpefnhkimplaaGreatDoorW.PrintWords Go.Proofs.YtmbpefnhkimplaaGreatDoor.K0 Go.Proofs.YtmbpefnhkimplaaGreatDoor.R1 Go.Proofs.YtmbpefnhkimplaaGreatDoor.R2
set_option linter.unusedVariables false
set_option linter.unusedSimpArgs false
theorem maniP_of {s : ByteArray} {x : Ps} {n : Nat} (h : ManIs s x n) : (maniP s).2.2 = 0 := by unfold maniP; rw [h.parse]
theorem ManIs.same {s : ByteArray} {x y : Ps} {n m : Nat} (h : ManIs s x n) (h' : ManIs s y m) : x = y ∧ n = m := by
  have := h.parse.symm.trans h'.parse
  exact Prod.mk.inj (Sum.inl.inj this)
/-- A requirement of a manifest, and where its version stands. -/
structure ReqAt (s : ByteArray) (x : Ps) (n : Nat) (r : Rq) (A B : List UInt8) : Prop where
  man : ManIs s x n
  mem : r ∈ x.reqs
  spot : x.spots r.f0.data.toList = some (A.length : Int)
  text : s.data.toList = A ++ ((txV r.f1).data.toList ++ B)
theorem ReqAt.where_ {s : ByteArray} (hs : s.size ≤ 400000) {x : Ps} {n : Nat} {r : Rq} {A B : List UInt8} (h : ReqAt s x n r A B) : whereP s r.f0 = ((A.length : Int), ((A.length + (txV r.f1).size : Nat) : Int), true) := by
  rcases where_is s hs r.f0 with hw | ⟨x', n', r', a, b, hm, hr, hp, hsp, hab, hw⟩
  · exfalso
    unfold whereP at hw
    rw [h.man.parse] at hw
    simp only at hw
    cases hf : x.reqs.find? (fun y => y.f0.toList == r.f0.toList) with
    | none => exact absurd (List.find?_eq_none.1 hf r h.mem) (by simp)
    | some r' => rw [hf] at hw; simp only at hw; exact absurd (Prod.mk.inj (Prod.mk.inj hw).2).2 (by decide)
  · obtain ⟨rfl, rfl⟩ := h.man.same hm
    have e1 : (A.length : Int) = a.length := by have := h.spot; rw [hsp] at this; exact (Option.some.inj this).symm
    obtain rfl := h.man.text.one r' hr r h.mem (by rw [hp])
    rw [hw, e1]
    have : A.length = a.length := by omega
    rw [this]
theorem ReqAt.set_ {s : ByteArray} (hs : s.size ≤ 400000) {x : Ps} {n : Nat} {r0 : Rq} {A B : List UInt8} (h : ReqAt s x n r0 A B) {r : Rq} (hr : rightP r = 0) (he : r0.f0 = r.f0) : (setP s r).2 = 0 ∧ (setP s r).1.data.toList = A ++ ((txV r.f1).data.toList ++ B) := by
  have hw := h.where_ hs
  rw [he] at hw
  have hlen : s.size = A.length + ((txV r0.f1).size + B.length) := by rw [Lib.size_eq s, h.text, List.length_append, List.length_append, ← Lib.size_eq]
  have e : setP s r = (s.extract 0 A.length ++ txV r.f1 ++ s.extract (A.length + (txV r0.f1).size) s.size, 0) := by
    unfold setP edP setE
    rw [if_neg (by rw [maniP_of h.man]; simp), if_neg (by rw [hr]; simp), hw, if_pos rfl]
    simp only [Int.toNat_natCast]
  rw [e]
  refine ⟨rfl, ?_⟩
  simp only [ByteArray.data_append, Array.toList_append, ext_list]
  rw [h.text]
  have t1 : ((A ++ ((txV r0.f1).data.toList ++ B)).take A.length).drop 0 = A := by simp
  have t2 : ((A ++ ((txV r0.f1).data.toList ++ B)).take s.size).drop (A.length + (txV r0.f1).size) = B := by
    rw [List.take_of_length_le (by rw [hlen, List.length_append, List.length_append, ← Lib.size_eq]; exact Nat.le_refl _), ← List.append_assoc]
    exact List.drop_left' (by rw [List.length_append, ← Lib.size_eq])
  rw [t1, t2, List.append_assoc]
/-- What is known behind an edit. -/
theorem ReqAt.sim {s : ByteArray} (hs : s.size ≤ 399900) {x : Ps} {n : Nat} {r0 : Rq} {A B : List UInt8} (h : ReqAt s x n r0 A B) {r : Rq} (hr : rightP r = 0) (he : r0.f0 = r.f0) : ∃ x', ManIs (setP s r).1 x' n ∧ Sim (A.length : Int) (((txV r.f1).size : Int) - ((txV r0.f1).size : Int)) r.f0.data.toList r.f1 x x' := by
  have hz := h.spot
  rw [he] at hz
  obtain ⟨r1, A1, B1, h1, h2, h3, h4, h5⟩ := set_main (by omega) h.man hz (v := r.f1) hr
  obtain rfl := h.man.text.one r1 h1 r0 h.mem (by rw [h2, he])
  obtain ⟨e1, e2⟩ := List.append_inj (h3.symm.trans h.text) (by omega)
  have e3 := List.append_cancel_left e2
  subst e1 e3
  obtain ⟨s1, s2⟩ := h.set_ (by omega) hr he
  exact h5 _ s2 (Nat.le_trans (setP_size s (by omega) r) (by omega))
theorem set_ok {s : ByteArray} (hs : s.size ≤ 400000) {r : Rq} (h : (setP s r).2 = 0) : rightP r = 0 ∧ ∃ x n r0 A B, ReqAt s x n r0 A B ∧ r0.f0 = r.f0 := by
  unfold setP edP at h
  split at h
  · rename_i h1; exact absurd h h1
  · split at h
    · rename_i h1; exact absurd h h1
    · rename_i h1 h2
      rcases where_is s hs r.f0 with hw | ⟨x, n, r0, a, b, hm, hr, hp, hsp, hab, hw⟩
      · rw [hw] at h; cases h
      · exact ⟨Decidable.not_not.1 h2, x, n, r0, a, b, ⟨hm, hr, by rw [hp]; exact hsp, hab⟩, hp⟩
/-- A requirement found again behind an edit of another text's: by its place. -/
theorem reqAt_of {s : ByteArray} {x : Ps} {n : Nat} (hm : ManIs s x n) {r : Rq} (hr : r ∈ x.reqs) {A B : List UInt8} (hz : x.spots r.f0.data.toList = some (A.length : Int)) (ht : s.data.toList = A ++ ((txV r.f1).data.toList ++ B)) : ReqAt s x n r A B := ⟨hm, hr, hz, ht⟩
/-- No two versions overlap. -/
def PsD (x : Ps) : Prop := ∀ p1 p2 z1 z2, x.spots p1 = some z1 → x.spots p2 = some z2 → p1 ≠ p2 → ∀ r ∈ x.reqs, r.f0.data.toList = p1 → z1 + ((txV r.f1).size : Int) ≤ z2 ∨ z2 < z1
theorem PsT.ends {T : List UInt8} {x : Ps} (h : PsT T x) {p : List UInt8} {z : Int} (hz : x.spots p = some z) : z < x.fro ∧ ∀ r ∈ x.reqs, r.f0.data.toList = p → z + ((txV r.f1).size : Int) ≤ x.fro := by
  obtain ⟨r, hr, e1, A, B, e2, e3, e4⟩ := h.spot p z hz
  have h2 : 0 < B.length := List.length_pos_iff.2 e4
  have hf := h.fro
  rw [e2] at hf
  simp only [List.length_append] at hf
  refine ⟨by omega, fun r' hr' e' => ?_⟩
  obtain rfl := h.one r hr r' hr' (by rw [e1, e'])
  rw [Lib.size_eq]; omega
theorem PsD.line {T : List UInt8} {x : Ps} (h : PsD x) (hT : PsT T x) (y : ByteArray) (hy : y.size ≤ 400000) (h0 : (lineP x (wordsOf y)).2 = 0) : PsD (nextP x y) := by
  rcases lineP_R x (wordsOf y) (words_ok y hy).one h0 with ⟨h1, h2⟩ | ⟨W, a, b, e, _, h2, h3, h4, _⟩
  · intro p1 p2 z1 z2 hz1 hz2 hne r hr hp
    exact h p1 p2 z1 z2 (h1 ▸ hz1) (h1 ▸ hz2) hne r (h2 ▸ hr) hp
  · have hb := (words_ok y hy).lo b (by rw [e]; simp)
    have hsp : (nextP x y).spots = (addR x ⟨a.f0, verP b.f0⟩ b.f1).spots := by show (lineP x (wordsOf y)).1.spots = _; rw [h4]
    have hrq : (nextP x y).reqs = x.reqs ++ [⟨a.f0, verP b.f0⟩] := by show (lineP x (wordsOf y)).1.reqs = _; rw [h4]; rfl
    intro p1 p2 z1 z2 hz1 hz2 hne r hr hp
    rw [hsp] at hz1 hz2
    rw [hrq] at hr
    simp only [addR] at hz1 hz2
    by_cases q1 : a.f0.data.toList = p1
    · rw [if_pos q1] at hz1
      rw [if_neg (fun e => hne (q1.symm.trans e))] at hz2
      have := (hT.ends hz2).1
      have := Option.some.inj hz1
      exact .inr (by omega)
    · rw [if_neg q1] at hz1
      have hr' : r ∈ x.reqs := by
        rcases List.mem_append.1 hr with hr | hr
        · exact hr
        · rw [List.mem_singleton.1 hr] at hp; exact absurd hp q1
      by_cases q2 : a.f0.data.toList = p2
      · rw [if_pos q2] at hz2
        have := (hT.ends hz1).2 r hr' hp
        have := Option.some.inj hz2
        exact .inl (by omega)
      · rw [if_neg q2] at hz2
        exact h p1 p2 z1 z2 hz1 hz2 hne r hr' hp
theorem runP_D : ∀ {l : List ByteArray} {k : Nat} {T : List UInt8} {x y : Ps}, (∀ s ∈ l, s.size ≤ 400000) → PsT T x → PsD x → runP k l x = .inl y → PsD y
  | [], k, T, x, y, _, _, h, hr => by obtain rfl := Sum.inl.inj hr; exact h
  | s :: l, k, T, x, y, hs, hT, h, hr => by
    have h9 := hs s List.mem_cons_self
    unfold runP at hr
    split at hr
    · rename_i h0
      exact runP_D (fun z hz => hs z (List.mem_cons_of_mem _ hz)) (hT.line s h9 h0) (h.line hT s h9 h0) hr
    · cases hr
theorem ManIs.dis {s : ByteArray} (hs : s.size ≤ 400000) {x : Ps} {n : Nat} (h : ManIs s x n) : PsD x :=
  runP_D (fun y hy => Nat.le_trans (rowsW_size hy) hs) PsT.zero (fun _ _ _ _ h => by cases h) h.run
/-- The same path: the last edit counts. -/
theorem set_twice {s : ByteArray} (hs : s.size ≤ 399000) {a b : Rq} (h1 : (setP s a).2 = 0) (h2 : (setP s b).2 = 0) (he : a.f0 = b.f0) : (setP (setP s a).1 b).2 = 0 ∧ (setP (setP s a).1 b).1 = (setP s b).1 := by
  obtain ⟨ha, x, n, r0, A, B, hra, e0⟩ := set_ok (by omega) h1
  obtain ⟨hb, _⟩ := set_ok (by omega) h2
  obtain ⟨x', hm', hsim⟩ := hra.sim (by omega) ha e0
  obtain ⟨_, ht⟩ := hra.set_ (by omega) ha e0
  have hsz : (setP s a).1.size ≤ 400000 := Nat.le_trans (setP_size s (by omega) a) (by omega)
  have hat : ReqAt (setP s a).1 x' n a A B := by
    refine reqAt_of hm' ?_ ?_ ht
    · rw [hsim.reqs]
      exact List.mem_map.2 ⟨r0, hra.mem, by rw [if_pos (by rw [e0]), e0]⟩
    · rw [hsim.spots, ← e0, hra.spot, Option.map_some, if_neg (by omega)]
  obtain ⟨g1, g2⟩ := hat.set_ hsz hb he
  obtain ⟨_, g4⟩ := hra.set_ (by omega) hb (e0.trans he)
  exact ⟨g1, by_data (g2.trans g4.symm)⟩
/-- Two paths: which is set first is of no moment. -/
theorem set_swap {s : ByteArray} (hs : s.size ≤ 399000) {a b : Rq} {x : Ps} {n : Nat} {ra rb : Rq} {A B A2 B2 : List UInt8} (ha : rightP a = 0) (hb : rightP b = 0) (hra : ReqAt s x n ra A B) (hrb : ReqAt s x n rb A2 B2) (ea : ra.f0 = a.f0) (eb : rb.f0 = b.f0) (hne : a.f0 ≠ b.f0) (hlt : A.length < A2.length) :
    (setP (setP s a).1 b).2 = 0 ∧ (setP (setP s b).1 a).2 = 0 ∧ (setP (setP s a).1 b).1 = (setP (setP s b).1 a).1 := by
  have hnd : a.f0.data.toList ≠ b.f0.data.toList := fun e => hne (by_data e)
  have hdis := hra.man.dis (by omega) _ _ _ _ hra.spot hrb.spot (by rw [ea, eb]; exact hnd) ra hra.mem rfl
  have hle : A.length + (txV ra.f1).data.toList.length ≤ A2.length := by
    rw [Lib.size_eq] at hdis
    omega
  obtain ⟨M, hM⟩ : ∃ M, A2 = A ++ ((txV ra.f1).data.toList ++ M) := by
    have h := hra.text.symm.trans hrb.text
    have h1 : (A ++ ((txV ra.f1).data.toList ++ B)).take A2.length = A2 := by rw [h]; simp
    rw [List.take_append, List.take_of_length_le (by omega), List.take_append, List.take_of_length_le (by omega)] at h1
    exact ⟨_, h1.symm⟩
  have hB : B = M ++ ((txV rb.f1).data.toList ++ B2) := by
    have h := hra.text.symm.trans hrb.text
    rw [hM] at h
    simp only [List.append_assoc] at h
    exact List.append_cancel_left (List.append_cancel_left h)
  obtain ⟨xa, hma, hsa⟩ := hra.sim (by omega) ha ea
  obtain ⟨_, ta⟩ := hra.set_ (by omega) ha ea
  obtain ⟨xb, hmb, hsb⟩ := hrb.sim (by omega) hb eb
  obtain ⟨_, tb⟩ := hrb.set_ (by omega) hb eb
  have hza : (setP s a).1.size ≤ 400000 := Nat.le_trans (setP_size s (by omega) a) (by omega)
  have hzb : (setP s b).1.size ≤ 400000 := Nat.le_trans (setP_size s (by omega) b) (by omega)
  have at1 : ReqAt (setP s a).1 xa n rb (A ++ ((txV a.f1).data.toList ++ M)) B2 := by
    refine reqAt_of hma ?_ ?_ ?_
    · rw [hsa.reqs]
      exact List.mem_map.2 ⟨rb, hrb.mem, if_neg (by rw [eb]; exact fun e => hnd e.symm)⟩
    · rw [hsa.spots, hrb.spot, Option.map_some, if_pos (by omega), hM]
      congr 1
      simp only [List.length_append]
      rw [Lib.size_eq, Lib.size_eq]
      omega
    · rw [ta, hB]; simp
  have at2 : ReqAt (setP s b).1 xb n ra A (M ++ ((txV b.f1).data.toList ++ B2)) := by
    refine reqAt_of hmb ?_ ?_ ?_
    · rw [hsb.reqs]
      exact List.mem_map.2 ⟨ra, hra.mem, if_neg (by rw [ea]; exact hnd)⟩
    · rw [hsb.spots, hra.spot, Option.map_some, if_neg (by omega)]
    · rw [tb, hM]; simp
  obtain ⟨g1, g2⟩ := at1.set_ hza hb eb
  obtain ⟨g3, g4⟩ := at2.set_ hzb ha ea
  exact ⟨g1, g3, by_data (by rw [g2, g4]; simp)⟩
theorem set_comm {s : ByteArray} (hs : s.size ≤ 399000) {a b : Rq} (h1 : (setP s a).2 = 0) (h2 : (setP s b).2 = 0) (hne : a.f0 ≠ b.f0) : (setP (setP s a).1 b).2 = 0 ∧ (setP (setP s b).1 a).2 = 0 ∧ (setP (setP s a).1 b).1 = (setP (setP s b).1 a).1 := by
  obtain ⟨ha, x, n, ra, A, B, hra, ea⟩ := set_ok (by omega) h1
  obtain ⟨hb, x', n', rb, A2, B2, hrb, eb⟩ := set_ok (by omega) h2
  obtain ⟨rfl, rfl⟩ := hra.man.same hrb.man
  rcases Nat.lt_trichotomy A.length A2.length with h | h | h
  · exact set_swap hs ha hb hra hrb ea eb hne h
  · exfalso
    have hnd : a.f0.data.toList ≠ b.f0.data.toList := fun e => hne (by_data e)
    have hdis := hra.man.dis (by omega) _ _ _ _ hra.spot hrb.spot (by rw [ea, eb]; exact hnd) ra hra.mem rfl
    have hp : 0 < (txV ra.f1).size := by
      rw [Lib.size_eq, txV_eq (rightP_ok (hra.man.text.ok ra hra.mem)).2.1]
      exact Nat.succ_pos _
    omega
  · obtain ⟨g1, g2, g3⟩ := set_swap hs hb ha hrb hra eb ea (fun e => hne e.symm) h
    exact ⟨g2, g1, g3.symm⟩
end Go.Proofs.YtmbpefnhkimplaaGreatDoor
end

section
namespace Go.Proofs.YtmbpefnhkimplaaGreatDoor
open Go Go.RowKit Go.Proofs Go.Proofs.YtmbpefnhkimplaaGreatDoorW.PrintWords Go.Proofs.YtmbpefnhkimplaaGreatDoor.K0
set_option linter.unusedVariables false
def edit_Set.f (s p : ByteArray) (a b c : Int) (q t : ByteArray) : Option (ByteArray × Int) := if s.size ≤ 400000 ∧ p.size ≤ 400000 then some (setP s ⟨p, ⟨a, b, c, q, t⟩⟩) else none
theorem edit_Set.calls (a0 a1 : ByteArray) (a2 a3 a4 : Int) (a5 a6 : ByteArray) (r1 : ByteArray) (r2 : Int) (w : World) (hG : GW w) (h : edit_Set.f a0 a1 a2 a3 a4 a5 a6 = some (r1, r2)) :
    Calls Tryz.prog 14 #[.string a0, .agg #[.string a1, .int .i64 a2, .int .i64 a3, .int .i64 a4, .string a5, .string a6]] w fun e w' => e = .returned (.tuple #[.string r1, .int .i64 r2]) ∧ Below w.heap.size w w' := by
  unfold edit_Set.f at h
  split at h
  · rename_i hb
    have := set_calls a0 hb.1 ⟨a1, ⟨a2, a3, a4, a5, a6⟩⟩ hb.2 w hG
    rw [Option.some.inj h] at this
    exact this
  · cases h
def edit_All.f (s : ByteArray) (l : List Rq) : Option (ByteArray × Int × Int) := if l.length ≤ 1000 ∧ s.size + 100 * l.length ≤ 400000 ∧ ∀ r ∈ l, r.f0.size ≤ 400000 then some (allP s l) else none
theorem edit_All.calls (a0 : ByteArray) (A1 : Option Addr) (c1 : Nat) (l1 : List Rq) (r1 : ByteArray) (r2 r3 : Int) (w : World) (hr1 : Kd.C k25 w A1 l1.length l1) (hc1 : l1.length ≤ c1) (hG : GW w) (h : edit_All.f a0 l1 = some (r1, r2, r3)) :
    Calls Tryz.prog 20 #[.string a0, .slice A1 l1.length c1] w fun e w' => e = .returned (.tuple #[.string r1, .int .i64 r2, .int .i64 r3]) ∧ Below w.heap.size w w' := by
  unfold edit_All.f at h
  split at h
  · rename_i hb
    have := all_calls a0 l1 hb.1 hb.2.1 hb.2.2 A1 c1 w hG hr1
    rw [Option.some.inj h] at this
    exact this
  · cases h
end Go.Proofs.YtmbpefnhkimplaaGreatDoor
end

section
namespace Go.Proofs.YtmbpefnhkimplaaGreatDoor.RS
open Go.RowKit Go.Proofs.YtmbpefnhkimplaaGreatDoor Go.Proofs.YtmbpefnhkimplaaGreatDoor.K0 Go.Proofs.YtmbpefnhkimplaaGreatDoorW.PrintWords Go.Proofs.YtmbpefnhkimplaaGreatDoorW.PrintLast Go.Proofs.YtmbpefnhkimplaaGreatDoorW.PrintMore
attribute [local go_sem] max2_int min2_int max_two min_two max_three min_three max_four min_four
set_option linter.unusedVariables false
set_option linter.unusedSimpArgs false
end Go.Proofs.YtmbpefnhkimplaaGreatDoor.RS
end

section
namespace Go.Proofs.YtmbpefnhkimplaaGreatDoor.RS
open Go.RowKit Go.Proofs.YtmbpefnhkimplaaGreatDoor Go.Proofs.YtmbpefnhkimplaaGreatDoor.K0 Go.Proofs.YtmbpefnhkimplaaGreatDoorW.PrintWords Go.Proofs.YtmbpefnhkimplaaGreatDoorW.PrintLast Go.Proofs.YtmbpefnhkimplaaGreatDoorW.PrintMore
attribute [local go_sem] max2_int min2_int max_two min_two max_three min_three max_four min_four
set_option linter.unusedVariables false
set_option linter.unusedSimpArgs false
theorem eqA23 (d : Nat) (w : World) (x0 y0 : Int) (x1 y1 : Int) (x2 y2 : Int) (x3 y3 : ByteArray) (x4 y4 : ByteArray) :
  (Op.equalIn (d + 2) 23 (.agg #[.int .i64 x0, .int .i64 x1, .int .i64 x2, .string x3, .string x4]) (.agg #[.int .i64 y0, .int .i64 y1, .int .i64 y2, .string y3, .string y4])).run Tryz.prog w = .ok (x0 == y0 && (x1 == y1 && (x2 == y2 && (x3.toList == y3.toList && (x4.toList == y4.toList))))) w := by
 refine eqA_of Tryz.underlying23 (by kernel_rfl) ?_; refine eqf_cons (by rfl) (by go_simp; rfl) (by go_simp; rfl) (by go_simp) ?_; refine eqf_cons (by rfl) (by go_simp; rfl) (by go_simp; rfl) (by go_simp) ?_; refine eqf_cons (by rfl) (by go_simp; rfl) (by go_simp; rfl) (by go_simp) ?_; refine eqf_cons (by rfl) (by go_simp; rfl) (by go_simp; rfl) (by go_simp) ?_; exact eqf_last (by rfl) (by go_simp; rfl) (by go_simp; rfl) (by go_simp)
theorem eqA25 (d : Nat) (w : World) (x0 y0 : ByteArray) (x1 y1 : Int) (x2 y2 : Int) (x3 y3 : Int) (x4 y4 : ByteArray) (x5 y5 : ByteArray) :
  (Op.equalIn (d + 3) 25 (.agg #[.string x0, .int .i64 x1, .int .i64 x2, .int .i64 x3, .string x4, .string x5]) (.agg #[.string y0, .int .i64 y1, .int .i64 y2, .int .i64 y3, .string y4, .string y5])).run Tryz.prog w = .ok (x0.toList == y0.toList && ((x1 == y1 && (x2 == y2 && (x3 == y3 && (x4.toList == y4.toList && (x5.toList == y5.toList))))))) w := by
 refine eqA_of Tryz.underlying25 (by kernel_rfl) ?_; refine eqf_cons (by rfl) (by go_simp; rfl) (by go_simp; rfl) (by go_simp) ?_; exact eqf_last (by rfl) (by go_simp) (by go_simp) (eqA23 (d + 0) w _ _ _ _ _ _ _ _ _ _)
end Go.Proofs.YtmbpefnhkimplaaGreatDoor.RS
end

section
namespace Go.Proofs.YtmbpefnhkimplaaGreatDoor.RS
open Go.RowKit Go.Proofs.YtmbpefnhkimplaaGreatDoor Go.Proofs.YtmbpefnhkimplaaGreatDoor.K0 Go.Proofs.YtmbpefnhkimplaaGreatDoorW.PrintWords Go.Proofs.YtmbpefnhkimplaaGreatDoorW.PrintLast Go.Proofs.YtmbpefnhkimplaaGreatDoorW.PrintMore
attribute [local go_sem] max2_int min2_int max_two min_two max_three min_three max_four min_four
set_option linter.unusedVariables false
set_option linter.unusedSimpArgs false
attribute [local go_sem high] eqA25
end Go.Proofs.YtmbpefnhkimplaaGreatDoor.RS
end

section
namespace Go.Proofs.YtmbpefnhkimplaaGreatDoor.RS
open Go.RowKit Go.Proofs.YtmbpefnhkimplaaGreatDoor Go.Proofs.YtmbpefnhkimplaaGreatDoor.K0 Go.Proofs.YtmbpefnhkimplaaGreatDoorW.PrintWords Go.Proofs.YtmbpefnhkimplaaGreatDoorW.PrintLast Go.Proofs.YtmbpefnhkimplaaGreatDoorW.PrintMore
attribute [local go_sem] max2_int min2_int max_two min_two max_three min_three max_four min_four
set_option linter.unusedVariables false
set_option linter.unusedSimpArgs false
end Go.Proofs.YtmbpefnhkimplaaGreatDoor.RS
end

section
namespace Go.Proofs.YtmbpefnhkimplaaGreatDoor.RS
open Go.RowKit Go.Proofs.YtmbpefnhkimplaaGreatDoor Go.Proofs.YtmbpefnhkimplaaGreatDoor.K0 Go.Proofs.YtmbpefnhkimplaaGreatDoorW.PrintWords Go.Proofs.YtmbpefnhkimplaaGreatDoorW.PrintLast Go.Proofs.YtmbpefnhkimplaaGreatDoorW.PrintMore
attribute [local go_sem] max2_int min2_int max_two min_two max_three min_three max_four min_four
set_option linter.unusedVariables false
set_option linter.unusedSimpArgs false
def armadalaw11_few.l0 : Nat → List (S25) → Int → Option (Bool)
 | 0, _, _ => none
 | k + 1, x0, x3 => if x3 < (x0.length : Int) then (if 0 ≤ x3 then (if (((rd_T25 x0 x3).f0).size : Int) > 200 then (some false) else (if (((rd_T25 x0 x3).f1.f3).size : Int) > 200 then (some false) else (if (((rd_T25 x0 x3).f1.f4).size : Int) > 200 then (some false) else (armadalaw11_few.l0 k x0 (wrap64 (x3 + 1)))))) else (none)) else (some (decide ((x0.length : Int) ≤ 20)))
def armadalaw11_few.f (k : Nat) (l0 : List (S25)) : Option (Bool) := armadalaw11_few.l0 k l0 0
set_option maxHeartbeats 8000000 in
set_option maxRecDepth 100000 in
theorem armadalaw11_few.calls (k : Nat) (A0 : Option Addr) (c0 : Nat) (l0 : List (S25)) (r : Bool) (w : World) (hr0 : Kd.C k25 w A0 l0.length l0) (hc0 : l0.length ≤ c0) (h : armadalaw11_few.f k l0 = some r) :
  Calls Tryz.prog 12 #[.slice A0 l0.length c0] w fun e w' => e = .returned (.bool r) ∧ Drawn0 w w' := by
 have HR0 := Aside0.mk hr0; have HC0 := Aside0.mk hc0; clear hr0 hc0; have H : (armadalaw11_few.l0 k l0 0) = some r := h; clear h; have H' := Aside0.mk H; clear H; go_enter Tryz.func12, Tryz.ntmps12; go_wp2
 go_loopg [3] k (fun kq v3 w' => ∃ (x3_1 : Int), v3 = .int .i64 x3_1 ∧ Aside0 (armadalaw11_few.l0 kq l0 x3_1 = some r) ∧ Aside0 (kq ≤ k) ∧ Drawn0 w w')
 case atStart => exact ⟨(0), xR, H', ⟨Nat.le_refl _⟩, by repeat (first | exact Drawn0.refl _ | apply Drawn0.step)⟩
 case round =>
  clear H'
  try clear c1
  obtain ⟨x3_1, rfl, HA, HK1, ⟨m1, rfl⟩⟩ := hrel
  cases gk with
  | zero => exact absurd HA.out (by simp [armadalaw11_few.l0])
  | succ k1 =>
   have H := HA.out; clear HA; simp only [armadalaw11_few.l0] at H; replace H := xJ H; rcases H with ⟨c2, H⟩ | ⟨c2, H⟩
   ·
    replace c2 := decide_eq_true c2; replace H := xI H; obtain ⟨c3, H⟩ := H; replace c3 := decide_eq_true c3; replace H := xJ H; rcases H with ⟨c4, H⟩ | ⟨c4, H⟩
    ·
     have c4b0 := decide_eq_true c4; have c4b1 : decide (200 < ((rd_T25 l0 x3_1).f0).size) = true := decide_eq_true (by omega); clear c4; obtain rfl := Option.some.inj H; obtain ⟨p115, q115, ad115, e115, hx115_0, hx115_1, hx115_2, hx115_3, hx115_4, hx115_5⟩ := xT (at_T25 HR0.out x3_1)
     cases e115
     go_wp2; go_ret; exact ⟨xR, xG⟩
    have c4b0 := decide_eq_false c4; have c4b1 : decide (200 < ((rd_T25 l0 x3_1).f0).size) = false := decide_eq_false (by omega); clear c4; replace H := xJ H; rcases H with ⟨c5, H⟩ | ⟨c5, H⟩
    ·
     have c5b0 := decide_eq_true c5; have c5b1 : decide (200 < ((rd_T25 l0 x3_1).f1.f3).size) = true := decide_eq_true (by omega); clear c5; obtain rfl := Option.some.inj H; obtain ⟨p115, q115, ad115, e115, hx115_0, hx115_1, hx115_2, hx115_3, hx115_4, hx115_5⟩ := xT (at_T25 HR0.out x3_1)
     cases e115
     obtain ⟨p116, q116, ad116, e116, hx116_0, hx116_1, hx116_2, hx116_3, hx116_4, hx116_5⟩ := xT (at_T25 HR0.out x3_1); obtain rfl := xE e116; go_wp2; go_ret; exact ⟨xR, xG⟩
    have c5b0 := decide_eq_false c5; have c5b1 : decide (200 < ((rd_T25 l0 x3_1).f1.f3).size) = false := decide_eq_false (by omega); clear c5; replace H := xJ H; rcases H with ⟨c6, H⟩ | ⟨c6, H⟩
    ·
     have c6b0 := decide_eq_true c6; have c6b1 : decide (200 < ((rd_T25 l0 x3_1).f1.f4).size) = true := decide_eq_true (by omega); clear c6; obtain rfl := Option.some.inj H; obtain ⟨p115, q115, ad115, e115, hx115_0, hx115_1, hx115_2, hx115_3, hx115_4, hx115_5⟩ := xT (at_T25 HR0.out x3_1)
     cases e115
     obtain ⟨p116, q116, ad116, e116, hx116_0, hx116_1, hx116_2, hx116_3, hx116_4, hx116_5⟩ := xT (at_T25 HR0.out x3_1); obtain rfl := xE e116; obtain ⟨p117, q117, ad117, e117, hx117_0, hx117_1, hx117_2, hx117_3, hx117_4, hx117_5⟩ := xT (at_T25 HR0.out x3_1); obtain rfl := xE e117; go_wp2; go_ret; exact ⟨xR, xG⟩
    have c6b0 := decide_eq_false c6; have c6b1 : decide (200 < ((rd_T25 l0 x3_1).f1.f4).size) = false := decide_eq_false (by omega); clear c6; have H' := Aside0.mk H; clear H; obtain ⟨p115, q115, ad115, e115, hx115_0, hx115_1, hx115_2, hx115_3, hx115_4, hx115_5⟩ := xT (at_T25 HR0.out x3_1)
    cases e115
    obtain ⟨p116, q116, ad116, e116, hx116_0, hx116_1, hx116_2, hx116_3, hx116_4, hx116_5⟩ := xT (at_T25 HR0.out x3_1); obtain rfl := xE e116; obtain ⟨p117, q117, ad117, e117, hx117_0, hx117_1, hx117_2, hx117_3, hx117_4, hx117_5⟩ := xT (at_T25 HR0.out x3_1); obtain rfl := xE e117; go_wp2; go_roundg k1
    case measure => exact xO1
    case rel => exact ⟨(wrap64 (x3_1 + 1)), xR, H', ⟨xO1⟩, by repeat (first | exact Drawn0.refl _ | apply Drawn0.step)⟩
   replace c2 := decide_eq_false c2; obtain rfl := Option.some.inj H; go_wp2; go_ret; exact ⟨xR, xG⟩
end Go.Proofs.YtmbpefnhkimplaaGreatDoor.RS
end

section
namespace Go.Proofs.YtmbpefnhkimplaaGreatDoor.RS
open Go.RowKit Go.Proofs.YtmbpefnhkimplaaGreatDoor Go.Proofs.YtmbpefnhkimplaaGreatDoor.K0 Go.Proofs.YtmbpefnhkimplaaGreatDoorW.PrintWords Go.Proofs.YtmbpefnhkimplaaGreatDoorW.PrintLast Go.Proofs.YtmbpefnhkimplaaGreatDoorW.PrintMore
attribute [local go_sem] max2_int min2_int max_two min_two max_three min_three max_four min_four
set_option linter.unusedVariables false
set_option linter.unusedSimpArgs false
end Go.Proofs.YtmbpefnhkimplaaGreatDoor.RS
end

section
namespace Go.Proofs.YtmbpefnhkimplaaGreatDoor
open Go Go.RowKit Go.Proofs Go.Proofs.YtmbpefnhkimplaaGreatDoorW.PrintWords Go.Proofs.YtmbpefnhkimplaaGreatDoor.K0 Go.Proofs.YtmbpefnhkimplaaGreatDoor.RS
set_option linter.unusedVariables false
set_option linter.unusedSimpArgs false
theorem few_l0 (l : List Rq) (hl : l.length ≤ 9223372036854775807) : ∀ (m n k : Nat), n + m = l.length → m < k → ∃ b, armadalaw11_few.l0 k l (n : Int) = some b ∧ (b = true → l.length ≤ 20 ∧ ∀ j r, n ≤ j → l[j]? = some r → r.f0.size ≤ 200)
  | m, n, 0, _, h => absurd h (Nat.not_lt_zero _)
  | 0, n, k + 1, h, _ => by
    refine ⟨decide ((l.length : Int) ≤ 20), ?_, fun hb => ⟨by have := of_decide_eq_true hb; omega, fun j r hj hr => by have := (List.getElem?_eq_some_iff.1 hr).1; omega⟩⟩
    rw [armadalaw11_few.l0, if_neg (by omega)]
  | m + 1, n, k + 1, h, hk => by
    obtain ⟨r, hr⟩ : ∃ r, l[n]? = some r := ⟨_, List.getElem?_eq_getElem (by omega)⟩
    have hrd : rd_T25 l (n : Int) = r := by unfold rd_T25; rw [Int.toNat_natCast, List.getD_eq_getElem?_getD, hr]; rfl
    obtain ⟨b, hb, hq⟩ := few_l0 l hl m (n + 1) k (by omega) (by omega)
    rw [armadalaw11_few.l0, if_pos (by omega), if_pos (by omega), hrd, wrap_id (z := (n : Int) + 1) (by omega) (by omega), show (n : Int) + 1 = ((n + 1 : Nat) : Int) by omega]
    by_cases h1 : (r.f0.size : Int) > 200
    · rw [if_pos h1]; exact ⟨false, rfl, fun h => by cases h⟩
    · rw [if_neg h1]
      by_cases h2 : (r.f1.f3.size : Int) > 200
      · rw [if_pos h2]; exact ⟨false, rfl, fun h => by cases h⟩
      · rw [if_neg h2]
        by_cases h3 : (r.f1.f4.size : Int) > 200
        · rw [if_pos h3]; exact ⟨false, rfl, fun h => by cases h⟩
        · rw [if_neg h3]
          refine ⟨b, hb, fun h => ⟨(hq h).1, fun j r' hj hr' => ?_⟩⟩
          by_cases e : j = n
          · subst e
            obtain rfl := Option.some.inj (hr.symm.trans hr')
            omega
          · exact (hq h).2 j r' (by omega) hr'
theorem few_f (l : List Rq) (hl : l.length ≤ 9223372036854775807) (k : Nat) (hk : l.length < k) : ∃ b, armadalaw11_few.f k l = some b ∧ (b = true → l.length ≤ 20 ∧ ∀ r ∈ l, r.f0.size ≤ 200) := by
  obtain ⟨b, h1, h2⟩ := few_l0 l hl l.length 0 k (by omega) hk
  exact ⟨b, h1, fun h => ⟨(h2 h).1, fun r hr => by obtain ⟨j, hj⟩ := List.getElem?_of_mem hr; exact (h2 h).2 j r (Nat.zero_le _) hj⟩⟩
theorem set_f {s : ByteArray} {r : Rq} (hs : s.size ≤ 400000) (hr : r.f0.size ≤ 400000) : edit_Set.f s r.f0 r.f1.f0 r.f1.f1 r.f1.f2 r.f1.f3 r.f1.f4 = some (setP s r) := by
  unfold edit_Set.f; rw [if_pos ⟨hs, hr⟩]
end Go.Proofs.YtmbpefnhkimplaaGreatDoor
end
