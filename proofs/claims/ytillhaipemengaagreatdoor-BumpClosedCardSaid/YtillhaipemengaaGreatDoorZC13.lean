/- The texts Edges, Edges2, Reach in one file, without what these claims do not use (put together by prune2.py). -/
import Derived.Test.YtillhaipemengaaGreatDoorZC12
section
namespace Go.Proofs.YtillhaipemengaaGreatDoor
open Go Go.RowKit Go.Sort Go.Proofs Go.Proofs.YtillhaipemengaaGreatDoorW.PrintWords Go.Proofs.YtillhaipemengaaGreatDoor.K0
set_option linter.unusedVariables false
set_option linter.unusedSimpArgs false
theorem edges_clo (B : Nat) (path : ByteArray) (a b c : Int) (s p q : ByteArray) (W : World) (h : W.cell? ⟨B, 1, none⟩ = some (.string path)) :
    Calls Tryz.prog 112 #[.agg #[.string s, .int .i64 a, .int .i64 b, .int .i64 c, .string p, .string q], .pointer (some ⟨B, 0, none⟩)] W fun e w' => e = .returned (.bool (s.toList == path.toList)) ∧ Below W.heap.size W w' := by
  have hlt : B < W.heap.size := World.block_lt_of_cell? W _ h
  have h2 : ∀ o, (W.alloc o).cell? ⟨B, 1, none⟩ = some (.string path) := fun o => (World.cell?_alloc_old W o _ (show B ≠ W.heap.size by omega)).trans h
  clear hlt
  go_enter Tryz.func112, Tryz.ntmps112
  go_wp2
  go_ret
  exact ⟨rfl, by repeat (first | exact Below.refl _ _ | apply below_alloc | apply pw_below_drewN | apply below_drew1)⟩
/-- Does a module require a path? -/
def needs (x : S63) (path : ByteArray) : Bool := x.f2.any fun r => r.f0.data.toList == path.data.toList
def edgesFrom (x : S63) : Nat → List S63 → List Int
  | _, [] => []
  | k, m :: l => if needs x m.f1 = true then (k : Int) :: edgesFrom x (k + 1) l else edgesFrom x (k + 1) l
theorem needs_call (A : Option Addr) (c : Nat) (x : S63) (path : ByteArray) (B : Nat) (w : World) (hr : Kd.C k69 w A x.f2.length x.f2) (h : w.cell? ⟨B, 1, none⟩ = some (.string path)) :
    Calls Tryz.prog 111 #[.slice A x.f2.length c, .func (.func 112) #[] #[.pointer (some ⟨B, 0, none⟩)]] w fun e w' => e = .returned (.bool (needs x path)) ∧ Below w.heap.size w w' := by
  refine ContainsFunc_Req A c x.f2 (fun r => r.f0.data.toList == path.data.toList) 112 _ (enters_of Tryz.func112 (by kernel_rfl) rfl) w hr ?_
  intro j r _ W hb cs hK
  obtain rfl := k69_open hK
  rw [← ByteArray.toList_eq, ← ByteArray.toList_eq]
  exact edges_clo B path _ _ _ _ _ _ W ((hb.cell (p := ⟨B, 1, none⟩) (World.block_lt_of_cell? w _ h)).trans h)
theorem edgesFrom_at (x : S63) : ∀ (k : Nat) (l : List S63) (m : S63) (rest : List S63), l = m :: rest → edgesFrom x k l = (if needs x m.f1 = true then [(k : Int)] else []) ++ edgesFrom x (k + 1) rest
  | k, _, m, rest, rfl => by
    show (if needs x m.f1 = true then (k : Int) :: edgesFrom x (k + 1) rest else edgesFrom x (k + 1) rest) = _
    split <;> rfl
theorem edgesFrom_len (x : S63) : ∀ (k : Nat) (l : List S63), (edgesFrom x k l).length ≤ l.length
  | _, [] => Nat.le_refl _
  | k, m :: l => by
    have := edgesFrom_len x (k + 1) l
    unfold edgesFrom
    split <;> simp <;> omega
end Go.Proofs.YtillhaipemengaaGreatDoor
end

section
namespace Go.Proofs.YtillhaipemengaaGreatDoor
open Go Go.RowKit Go.Sort Go.Proofs Go.Proofs.YtillhaipemengaaGreatDoorW.PrintWords Go.Proofs.YtillhaipemengaaGreatDoor.K0
set_option linter.unusedVariables false
set_option linter.unusedSimpArgs false
set_option maxRecDepth 100000 in
set_option maxHeartbeats 4000000 in
theorem edges_calls (A : Option Addr) (c : Nat) (xs : List S63) (i : Nat) (x : S63) (w : World) (hr : Kd.C k63 w A xs.length xs) (hx : xs[i]? = some x) (hl : xs.length ≤ 4294967290) :
    Calls Tryz.prog 76 #[.slice A xs.length c, .int .i64 i] w fun e w' => ∃ v0_ : Value, e = .returned v0_ ∧ Kd.R (Kd.int .i64) 3 w' w.heap.size (fun _ => True) v0_ (edgesFrom x 0 xs) ∧ Below w.heap.size w w' := by
  obtain ⟨n, hn⟩ : ∃ n, n = xs.length := ⟨_, rfl⟩
  rw [← hn] at hr hl ⊢
  have HN := Aside0.mk hn
  clear hn
  have HR := Aside0.mk hr
  have HX := Aside0.mk hx
  clear hr hx
  go_enter Tryz.func76, Tryz.ntmps76
  go_wp2
  go_loopg [5, 10] n (fun gg v5 v10 wr => ∃ (kk : Nat) (acc : List Int), kk ≤ n ∧ n - kk ≤ gg ∧ v10 = .int .i64 kk ∧ Aside0 (acc ++ edgesFrom x kk (xs.drop kk) = edgesFrom x 0 xs) ∧ Aside0 (Kd.R (Kd.int .i64) 3 wr w.heap.size (fun _ => True) v5 acc) ∧ Aside0 (Below w.heap.size w wr))
  case atStart => exact ⟨0, [], Nat.zero_le _, by omega, rfl, Aside0.mk (by simp), Aside0.mk (Kd.R_nil _ _ _ _ _), Aside0.mk (Below.refl _ w)⟩
  case round =>
    obtain ⟨kk, acc, hkk, hg, rfl, HE, HO, HB⟩ := hrel
    by_cases hlt : kk < n
    · have hltz : (kk : Int) < (n : Int) := by omega
      have HR1 := Kd.C_below HR.out HB.out
      obtain ⟨m, hm⟩ : ∃ m, xs[kk]? = some m := ⟨_, List.getElem?_eq_getElem (by have := HN.out; omega)⟩
      have hi : i < n := by have := (List.getElem?_eq_some_iff.1 HX.out).1; have := HN.out; omega
      have hiz : (i : Int) < (n : Int) := by omega
      have hme : rd_T63 xs (kk : Int) = m := by
        unfold rd_T63
        rw [Int.toNat_natCast, List.getD_eq_getElem?_getD, hm]; rfl
      have hxe : rd_T63 xs (i : Int) = x := by
        unfold rd_T63
        rw [Int.toNat_natCast, List.getD_eq_getElem?_getD, HX.out]; rfl
      obtain ⟨ad, A2, c2, hA, h0, h1, h2, hc2, hC2⟩ := at_T63 HR1 (kk : Int) (by omega) (by omega)
      obtain ⟨ad', Ai, ci, hA', g0, g1, g2, gc, gC⟩ := at_T63 HR1 (i : Int) (by omega) (by omega)
      obtain rfl : ad = ad' := by rw [hA] at hA'; injection hA'
      subst hA
      rw [hme] at h0 h1 h2 hc2 hC2
      rw [hxe] at g0 g1 g2 gc gC
      rw [Int.toNat_natCast] at h0 h1 h2 g0 g1 g2
      have HGC := Aside0.mk gC
      have HM := Aside0.mk hm
      clear HR1 hme hxe hA' gC hm hC2
      have hbi : (ad.add (i * 3)).block < wr.heap.size := World.block_lt_of_cell? _ (ad.add (i * 3)) g0
      have g2' : ∀ o, (wr.alloc o).cell? ⟨(ad.add (i * 3)).block, (ad.add (i * 3)).off + 2, none⟩ = some (.slice Ai x.f2.length ci) := fun o => (World.cell?_alloc_old wr o ⟨(ad.add (i * 3)).block, (ad.add (i * 3)).off + 2, none⟩ (show (ad.add (i * 3)).block ≠ wr.heap.size by omega)).trans g2
      have hmf : ∀ (fn : Fn) (first cap : Array Value) (w : World), (Instr.makeFunc fn first cap).run Tryz.prog w = .ok (.func fn first cap) w := fun _ _ _ _ => rfl
      have hC : Calls Tryz.prog 111 #[.slice Ai x.f2.length ci, .func (.func 112) #[] #[.pointer (some ⟨wr.heap.size, 0, none⟩)]] (wr.alloc (.cells #[.string m.f0, .string m.f1, .slice A2 m.f2.length c2] 63)) fun e w' => e = .returned (.bool (needs x m.f1)) ∧ Below (wr.alloc (.cells #[.string m.f0, .string m.f1, .slice A2 m.f2.length c2] 63)).heap.size (wr.alloc (.cells #[.string m.f0, .string m.f1, .slice A2 m.f2.length c2] 63)) w' :=
        needs_call Ai ci x m.f1 wr.heap.size _ (Kd.C_alloc HGC.out _) (by unfold World.cell?; rw [heap_alloc_new]; rfl)
      have hdrop : xs.drop kk = m :: xs.drop (kk + 1) := by
        obtain ⟨h, e⟩ := List.getElem?_eq_some_iff.1 HM.out
        rw [List.drop_eq_getElem_cons h, e]
      have hE := HE.out
      rw [edgesFrom_at x kk _ m _ hdrop, ← List.append_assoc] at hE
      have HLE : Aside0 (acc.length ≤ 4294967290) := ⟨by
        have h := congrArg List.length hE
        have h2 := edgesFrom_len x 0 xs
        simp only [List.length_append] at h
        have := HN.out
        omega⟩
      clear hdrop
      cases hq : needs x m.f1 with
      | true =>
        rw [hq] at hC hE
        rw [if_pos rfl] at hE
        have HE1 := Aside0.mk hE
        clear hE hq
        go_wp2_with (first | (go_at_call 111; refine hC.mono ?_; rintro e w' ⟨rfl, hb'⟩; have HB1 := Aside0.mk (below_step (below_alloc HB.out _) hb'); have HO1 := Aside0.mk (Kd.R_below (Kd.R_alloc HO.out _) hb'); clear hb') | ((with_reducible refine gate_builtin (b := .append) (xs := #[.tmp 22, .tmp 24]) rfl ?_); at_builtin; refine Kd.R_append (Kd.int .i64) (w0 := w) w.heap.size rfl (.tmp 22) (.tmp 24) 39 3 (.int .i64 0) 8 rfl Tryz.underlying39 info3 rfl (by decide) (by decide) u5 acc (kk : Int) [.int .i64 kk] (fun _ => True) (fun _ => False) rfl rfl ?aP (fun _ hk => hk.elim) ?aF ?aO ?aB ?aS ?aL ?_; (case aP => exact rfl); (case aB => exact HB1.out); (case aF => exact (fun _ _ => trivial)); (case aO => exact HO1.out); (case aS => exact below_size HB1.out); (case aL => have := HLE.out; omega); intro v103 w9 ho hb hg hat; have HO2 := Aside0.mk ho; have HB2 := Aside0.mk hb; clear ho hb hg hat HB1 HO1))
        go_roundg (n - (kk + 1))
        case measure => omega
        case rel => exact ⟨kk + 1, acc ++ [(kk : Int)], by omega, by omega, by go_num, HE1, HO2, HB2⟩
      | false =>
        rw [hq] at hC hE
        rw [if_neg (by simp)] at hE
        have HE1 := Aside0.mk hE
        clear hE hq
        go_wp2_with (go_at_call 111; refine hC.mono ?_; rintro e w' ⟨rfl, hb'⟩)
        go_roundg (n - (kk + 1))
        case measure => omega
        case rel => exact ⟨kk + 1, acc, by omega, by omega, by go_num, ⟨by simpa using HE1.out⟩, ⟨Kd.R_below (Kd.R_alloc HO.out _) hb'⟩, ⟨below_step (below_alloc HB.out _) hb'⟩⟩
    · have hltz : ¬ (kk : Int) < (n : Int) := by omega
      go_wp2
      go_ret
      exact ⟨_, rfl, by have h := HE.out; rw [List.drop_eq_nil_of_le (by have := HN.out; omega)] at h; rw [show edgesFrom x 0 xs = acc from by rw [← h]; simp [edgesFrom]]; exact HO.out, HB.out⟩
end Go.Proofs.YtillhaipemengaaGreatDoor
end

section
namespace Go.Proofs.YtillhaipemengaaGreatDoor
open Go
set_option linter.unusedVariables false
set_option linter.unusedSimpArgs false
section
variable (E : Nat → List Int)
inductive Reach : Nat → Nat → Prop
  | one {i : Nat} {z : Int} : z ∈ E i → Reach i z.toNat
  | step {i j : Nat} {z : Int} : z ∈ E i → Reach z.toNat j → Reach i j
variable {E}
theorem Reach.trans {a b c : Nat} (h : Reach E a b) (g : Reach E b c) : Reach E a c := by
  induction h with
  | one hz => exact .step hz g
  | step hz _ ih => exact .step hz (ih g)
theorem Reach.last {a b : Nat} (h : Reach E a b) : ∃ c z, z ∈ E c ∧ b = z.toNat ∧ (c = a ∨ Reach E a c) := by
  induction h with
  | one hz => exact ⟨_, _, hz, rfl, .inl rfl⟩
  | step hz _ ih =>
    obtain ⟨c, z, h1, h2, h3⟩ := ih
    refine ⟨c, z, h1, h2, .inr ?_⟩
    rcases h3 with rfl | h3
    · exact .one hz
    · exact .step hz h3
variable (E)
/-- Going down from a place, with marks. -/
def dn : Nat → Nat → List Bool → List Bool
  | 0, _, m => m
  | f + 1, i, m => (E i).foldl (fun m z => if m.getD z.toNat false = true then m else dn f z.toNat (m.set z.toNat true)) m
def stepD (f : Nat) (m : List Bool) (z : Int) : List Bool := if m.getD z.toNat false = true then m else dn E f z.toNat (m.set z.toNat true)
theorem dn_succ (f i : Nat) (m : List Bool) : dn E (f + 1) i m = (E i).foldl (stepD E f) m := rfl
structure Dn (L : List Int) (i : Nat) (m m' : List Bool) : Prop where
  len : m'.length = m.length
  cnt : m'.count false ≤ m.count false
  mono : ∀ x : Nat, m.getD x false = true → m'.getD x false = true
  all : ∀ z ∈ L, m'.getD z.toNat false = true
  new : ∀ x : Nat, m'.getD x false = true → m.getD x false = false → Reach E i x ∧ ∀ z ∈ E x, m'.getD z.toNat false = true
variable {E}
theorem Dn.nil (i : Nat) (m : List Bool) : Dn E [] i m m where
  len := rfl
  cnt := Nat.le_refl _
  mono := fun _ h => h
  all := fun _ h => by cases h
  new := fun x h1 h2 => by rw [h2] at h1; cases h1
theorem Dn.app {L1 L2 : List Int} {i : Nat} {m m1 m2 : List Bool} (h1 : Dn E L1 i m m1) (h2 : Dn E L2 i m1 m2) : Dn E (L1 ++ L2) i m m2 where
  len := h2.len.trans h1.len
  cnt := Nat.le_trans h2.cnt h1.cnt
  mono := fun x h => h2.mono x (h1.mono x h)
  all := fun z hz => by
    rcases List.mem_append.1 hz with h | h
    · exact h2.mono _ (h1.all z h)
    · exact h2.all z h
  new := fun x hx hn => by
    cases hm : m1.getD x false with
    | true =>
      obtain ⟨a, b⟩ := h1.new x hm hn
      exact ⟨a, fun z hz => h2.mono _ (b z hz)⟩
    | false => exact h2.new x hx hm
theorem getD_set (m : List Bool) (k x : Nat) (hk : k < m.length) : (m.set k true).getD x false = (if x = k then true else m.getD x false) := by
  rw [List.getD_eq_getElem?_getD, List.getD_eq_getElem?_getD, List.getElem?_set]
  by_cases h : k = x
  · subst h
    simp [hk]
  · rw [if_neg h, if_neg (fun e => h e.symm)]
theorem count_set : ∀ (m : List Bool) (k : Nat), k < m.length → m.getD k false = false → (m.set k true).count false + 1 = m.count false
  | [], k, h, _ => by cases h
  | b :: m, 0, _, h => by
    obtain rfl : b = false := by simpa using h
    simp
  | b :: m, k + 1, h, h2 => by
    have := count_set m k (by simpa using h) (by simpa using h2)
    cases b <;> simp <;> omega
theorem fold_ok {N : Nat} (hE : ∀ i z, z ∈ E i → z.toNat < N) (f : Nat) (ok : ∀ (i : Nat) (m : List Bool), m.length = N → m.count false < f → Dn E (E i) i m (dn E f i m)) (i : Nat) :
    ∀ (L : List Int) (m : List Bool), (∀ z ∈ L, z ∈ E i) → m.length = N → m.count false < f + 1 → Dn E L i m (L.foldl (stepD E f) m) := by
    intro L
    induction L with
    | nil => intro m _ _ _; exact Dn.nil i m
    | cons z L ih =>
      intro m hL hl hc
      have hz := hL z (by simp)
      have hzN := hE i z hz
      have one : Dn E [z] i m (stepD E f m z) := by
        unfold stepD
        cases hm : m.getD z.toNat false with
        | true =>
          rw [if_pos rfl]
          exact { Dn.nil i m with all := fun y hy => by obtain rfl := List.mem_singleton.1 hy; exact hm }
        | false =>
          rw [if_neg (by simp)]
          have hcs := count_set m z.toNat (by omega) hm
          have D := ok z.toNat (m.set z.toNat true) (by simpa using hl) (by omega)
          have gs := fun x => getD_set m z.toNat x (by omega)
          have hself : (dn E f z.toNat (m.set z.toNat true)).getD z.toNat false = true := D.mono _ (by rw [gs]; simp)
          exact {
            len := by rw [D.len]; simp
            cnt := by have := D.cnt; omega
            mono := fun x hx => D.mono x (by rw [gs]; split <;> first | rfl | exact hx)
            all := fun y hy => by obtain rfl := List.mem_singleton.1 hy; exact hself
            new := fun x hx hn => by
              by_cases e : x = z.toNat
              · subst e
                exact ⟨.one hz, D.all⟩
              · obtain ⟨a, b⟩ := D.new x hx (by rw [gs, if_neg e]; exact hn)
                exact ⟨.step hz a, b⟩ }
      exact Dn.app one (ih _ (fun y hy => hL y (by simp [hy])) (by rw [one.len]; exact hl) (by have := one.cnt; omega))
theorem dn_ok {N : Nat} (hE : ∀ i z, z ∈ E i → z.toNat < N) : ∀ (f i : Nat) (m : List Bool), m.length = N → m.count false < f → Dn E (E i) i m (dn E f i m)
  | 0, _, _, _, h => by omega
  | f + 1, i, m, hl, hc => by
    rw [dn_succ]
    exact fold_ok hE f (dn_ok hE f) i (E i) m (fun _ h => h) hl hc
variable (E)
def belowOf (i : Nat) : List Bool := dn E 13 i (List.replicate 12 false)
variable {E}
theorem belowOf_len (hE : ∀ i z, z ∈ E i → z.toNat < 12) (i : Nat) : (belowOf E i).length = 12 := (dn_ok hE 13 i _ (by simp) (by decide)).len
theorem below_iff (hE : ∀ i z, z ∈ E i → z.toNat < 12) (i x : Nat) : (belowOf E i).getD x false = true ↔ Reach E i x := by
  have D := dn_ok hE 13 i (List.replicate 12 false) (by simp) (by decide)
  have h0 : ∀ x : Nat, (List.replicate 12 false).getD x false = false := fun x => by
    rw [List.getD_eq_getElem?_getD, List.getElem?_replicate]; split <;> rfl
  constructor
  · intro h; exact (D.new x h (h0 x)).1
  · intro h
    suffices H : ∀ a x, Reach E a x → (a = i ∨ (belowOf E i).getD a false = true) → (belowOf E i).getD x false = true from H i x h (.inl rfl)
    intro a x h
    induction h with
    | one hz =>
      rintro (rfl | h)
      · exact D.all _ hz
      · exact (D.new _ h (h0 _)).2 _ hz
    | step hz _ ih =>
      rintro (rfl | h)
      · exact ih (.inr (D.all _ hz))
      · exact ih (.inr ((D.new _ h (h0 _)).2 _ hz))
theorem countP_lt {p q : Nat → Bool} : ∀ (l : List Nat), (∀ x ∈ l, p x = true → q x = true) → (∃ y ∈ l, q y = true ∧ p y = false) → l.countP p < l.countP q
  | [], _, h => by obtain ⟨_, h, _⟩ := h; cases h
  | x :: l, hs, h => by
    have hle : l.countP p ≤ l.countP q := List.countP_mono_left (fun y hy => hs y (by simp [hy]))
    obtain ⟨y, hy, hq, hp⟩ := h
    rw [List.countP_cons, List.countP_cons]
    rcases List.mem_cons.1 hy with rfl | hy
    · rw [hq, hp]; simp; omega
    · have := countP_lt l (fun y hy => hs y (by simp [hy])) ⟨y, hy, hq, hp⟩
      have hx := hs x (by simp)
      cases hpx : p x
      · simp; split <;> omega
      · rw [hx hpx]; simp; omega
open Classical in
/-- Where nobody of a set depends on himself, somebody of it requires nobody of it. -/
theorem sink {n : Nat} (hE : ∀ i z, z ∈ E i → z.toNat < n) (U : Nat → Prop) (hac : ∀ u, U u → ¬ Reach E u u) : ∀ u, U u → ∃ v, U v ∧ ∀ z ∈ E v, ¬ U z.toNat := by
  suffices H : ∀ c u, U u → (List.range n).countP (fun x => decide (Reach E u x)) = c → ∃ v, U v ∧ ∀ z ∈ E v, ¬ U z.toNat from fun u hu => H _ u hu rfl
  intro c
  induction c using Nat.strongRecOn with
  | _ c ih =>
    intro u hu hc
    by_cases h : ∀ z ∈ E u, ¬ U z.toNat
    · exact ⟨u, hu, h⟩
    · obtain ⟨z, hz⟩ := Classical.not_forall.1 h
      obtain ⟨hzE, hzU⟩ : z ∈ E u ∧ U z.toNat := ⟨Classical.byContradiction fun e => hz fun h => absurd h e, Classical.byContradiction fun e => hz fun _ => e⟩
      refine ih _ ?_ z.toNat hzU rfl
      rw [← hc]
      refine countP_lt _ ?_ ⟨z.toNat, ?_, ?_, ?_⟩
      · intro x _ hx
        rw [decide_eq_true_eq] at hx ⊢
        exact .step hzE hx
      · rw [List.mem_range]; exact hE u z hzE
      · rw [decide_eq_true_eq]; exact .one hzE
      · rw [decide_eq_false_iff_not]; exact hac _ hzU
end
end Go.Proofs.YtillhaipemengaaGreatDoor
end
