/- The texts Dec in one file, without what these claims do not use (put together by prune2.py). -/
import Derived.Test.YtjdhdjmdmnedfaaGreatDoorZP12
import Derived.Test.YtjdhdjmdmnedfaaGreatDoorZP10
import Derived.Test.YtjdhdjmdmnedfaaGreatDoorZP3
import Derived.Lib.FrozenHead
import Derived.Lib.SmallJoins
section
namespace Go.Proofs.YtjdhdjmdmnedfaaGreatDoor
open Go Go.RowKit Go.Proofs Go.Proofs.YtjdhdjmdmnedfaaGreatDoorW.PrintWords Go.Proofs.YtjdhdjmdmnedfaaGreatDoorW.PrintMore Go.Proofs.YtjdhdjmdmnedfaaGreatDoor.K0 Go.Proofs.YtjdhdjmdmnedfaaGreatDoor.R3
set_option linter.unusedVariables false
set_option linter.unusedSimpArgs false
theorem bits63 (x : Nat) (h : x < 4294967296) : Go.bits .and .u32 (x : Int) 63 = ((x % 64 : Nat) : Int) := by
  have := bits_mask .u32 32 (by decide) (fun n h0 h1 => by rw [IntKind.wrap_u32]; omega) 6 (by decide) (x : Int) (by omega) (by omega)
  have e : ((2 : Int) ^ 6 - 1) = 63 := by decide
  simpa [e] using this
theorem signs_at (k : Nat) (h : k < 64) : bt (⟨#[65, 66, 67, 68, 69, 70, 71, 72, 73, 74, 75, 76, 77, 78, 79, 80, 81, 82, 83, 84, 85, 86, 87, 88, 89, 90, 97, 98, 99, 100, 101, 102, 103, 104, 105, 106, 107, 108, 109, 110, 111, 112, 113, 114, 115, 116, 117, 118, 119, 120, 121, 122, 48, 49, 50, 51, 52, 53, 54, 55, 56, 57, 43, 47]⟩ : ByteArray) (k : Int) = ((sgn k).toNat : Int) := by
  revert h; revert k; decide +kernel
theorem part_f (n i : Nat) (h : n < 16777216) (hi : i < 4) : b64_part.f (n : Int) (i : Int) = some ((sgn (n / 2 ^ (18 - 6 * i) % 64)).toNat : Int) := by
  have e1 : wrap64 (6 * (i : Int)) = 6 * (i : Int) := by unfold wrap64; omega
  have e2 : wrap64 (18 - 6 * (i : Int)) = ((18 - 6 * i : Nat) : Int) := by unfold wrap64; omega
  have e3 : shr .u32 (n : Int) ((18 - 6 * i : Nat) : Int) = ((n / 2 ^ (18 - 6 * i) : Nat) : Int) := by
    have hm : min ((18 - 6 * i : Nat) : Int).toNat 32 = 18 - 6 * i := by omega
    show (n : Int) / 2 ^ min ((18 - 6 * i : Nat) : Int).toNat 32 = _
    rw [hm]; simp
  have hlt : n / 2 ^ (18 - 6 * i) < 4294967296 := Nat.lt_of_le_of_lt (Nat.div_le_self _ _) (by omega)
  unfold b64_part.f
  rw [e1, e2, if_pos (by omega), e3, bits63 _ hlt, if_pos (by omega), if_pos (by have := Nat.mod_lt (n / 2 ^ (18 - 6 * i)) (show 64 > 0 by decide); omega), signs_at _ (Nat.mod_lt _ (by decide))]
theorem part_at (n i : Nat) (hn : n < 16777216) (hi : i < 4) (w : World) : Calls Tryz.prog 145 #[.int .u32 (n : Int), .int .i64 (i : Int)] w fun e w' => e = .returned (.int .u8 ((sgn (n / 2 ^ (18 - 6 * i) % 64)).toNat : Int)) ∧ Drawn0 w w' :=
  b64_part.calls _ _ _ w (part_f n i hn hi)
theorem bits_or (a b i : Nat) (ha : a < 2 ^ i) (hb : b % 2 ^ i = 0) (hb2 : b < 4294967296) (hi : i ≤ 32) : Go.bits .or .u32 (a : Int) (b : Int) = ((a + b : Nat) : Int) := by
  have ha2 : a < 2 ^ 32 := Nat.lt_of_lt_of_le ha (Nat.pow_le_pow_right (by decide) hi)
  have h := (bits_nat .u32 32 (by decide) (fun n h0 h1 => by rw [IntKind.wrap_u32]; omega) a b ha2 hb2).2
  rw [h]
  have hq : b = 2 ^ i * (b / 2 ^ i) := by have := Nat.div_add_mod b (2 ^ i); omega
  rw [hq, Nat.or_comm, ← Nat.two_pow_add_eq_or_of_lt ha]
  congr 1; omega
/-- The signs of a group, as a row of four. -/
def row4 (k : Nat) : Array Value := ((List.replicate k (61 : Int) ++ List.replicate (4 - k) 0).map (Value.int .u8)).toArray
theorem heap_set {W : World} {B k : Nat} {cs : Array Value} {t : TypeId} {fz : Nat × Nat} {v : Value} (h : W.heap[B]? = some (.cells cs t fz)) : (W.setCell ⟨B, k, none⟩ v).heap[B]? = some (.cells (cs.setIfInBounds k v) t fz) := by
  have hlt := (Array.getElem?_eq_some_iff.1 h).1
  have h' : W.heap[B] = .cells cs t fz := by simpa [Array.getElem?_eq_getElem hlt] using h
  show (W.heap.modify B _)[B]? = _
  rw [Array.getElem?_eq_getElem (by simpa using hlt), Array.getElem_modify_self, h']
  rfl
theorem heap_cell {W : World} {B : Nat} {cs : Array Value} {t : TypeId} {fz : Nat × Nat} (h : W.heap[B]? = some (.cells cs t fz)) (k : Nat) : W.cell? ⟨B, k, none⟩ = cs[k]? := by
  unfold World.cell?
  simp only [h]
  simp
theorem heap_free {W : World} {B : Nat} {cs : Array Value} {t : TypeId} (h : W.heap[B]? = some (.cells cs t (0, 0))) (k : Nat) : W.frozen? ⟨B, k, none⟩ = false := by
  simp [World.frozen?, h]
theorem row4_next : ∀ k : Nat, k < 4 → (row4 k).setIfInBounds k (.int .u8 61) = row4 (k + 1) ∧ (row4 k)[k]? = some (.int .u8 0)
  | 0, _ => ⟨rfl, rfl⟩
  | 1, _ => ⟨rfl, rfl⟩
  | 2, _ => ⟨rfl, rfl⟩
  | 3, _ => ⟨rfl, rfl⟩
  | k + 4, h => by omega
theorem conv4 (W : World) (B : Nat) (x0 x1 x2 x3 : UInt8) (h : W.heap[B]? = some (.cells #[.int .u8 x0.toNat, .int .u8 x1.toNat, .int .u8 x2.toNat, .int .u8 x3.toNat] 138 (0, 0))) :
    (convert 64 9 (.slice (some ⟨B, 0, none⟩) 4 4)).run Tryz.prog W = .ok (.string ⟨#[x0, x1, x2, x3]⟩) W :=
  run_convert_bytes_back W 64 9 5 ⟨B, 0, none⟩ 4 [x0, x1, x2, x3] Tryz.underlying64 Tryz.underlying5 Tryz.underlying9 (fun j hj => by
    have e : (⟨B, 0, none⟩ : Addr).add j = ⟨B, j, none⟩ := by
      unfold Addr.add
      split
      · rename_i h; subst h; rfl
      · simp
    rw [e, heap_cell h]
    rcases j with _ | _ | _ | _ | j <;> first | rfl | (simp at hj; omega))
set_option maxRecDepth 100000 in
set_option maxHeartbeats 4000000 in
theorem group1 (a : UInt8) (w : World) : Calls Tryz.prog 128 #[.string ⟨#[a]⟩] w fun e w' => e = .returned (.string (ba (enc [a]))) ∧ Below w.heap.size w w' := by
  go_enter Tryz.func128, Tryz.ntmps128
  go_wp2
  go_loopg [5, 6] 4 (fun gg _ v6 wr => ∃ kk : Nat, kk ≤ 4 ∧ 4 - kk ≤ gg ∧ v6 = .int .i64 kk ∧ Aside0 (wr.heap[w.heap.size]? = some (.cells (row4 kk) 138 (0, 0))) ∧ Aside0 (Below w.heap.size w wr))
  case atStart => exact ⟨0, Nat.zero_le _, by omega, rfl, ⟨heap_alloc_new w _⟩, ⟨below_alloc (Below.refl _ _) _⟩⟩
  case round =>
    obtain ⟨kk, hkk, hg, rfl, HH, HB⟩ := hrel
    by_cases hlt : kk < 4
    · have hltz : (kk : Int) < 4 := by omega
      have hc := (heap_cell HH.out kk).trans (row4_next kk hlt).2
      have hf := heap_free HH.out kk
      go_wp2
      go_roundg (4 - (kk + 1))
      case measure => omega
      case rel =>
        refine ⟨kk + 1, by omega, by omega, by go_num, ⟨?_⟩, ⟨HB.out.setCell (p := ⟨w.heap.size, kk, none⟩) (Nat.le_refl _) _⟩⟩
        rw [← (row4_next kk hlt).1]
        exact heap_set HH.out
    · have hltz : ¬ (kk : Int) < 4 := by omega
      have : kk = 4 := by omega
      subst this
      have hH : wr.heap[w.heap.size]? = some (.cells #[.int .u8 61, .int .u8 61, .int .u8 61, .int .u8 61] 138 (0, 0)) := HH.out
      have c0 := heap_cell hH 0
      have c1 := heap_cell hH 1
      have c2 := heap_cell hH 2
      have c3 := heap_cell hH 3
      have f0 := heap_free hH 0
      have f1 := heap_free hH 1
      have f2 := heap_free hH 2
      have f3 := heap_free hH 3
      have la := a.toNat_lt
      obtain ⟨na, hna⟩ : ∃ k : Nat, k = a.toNat * 65536 := ⟨_, rfl⟩
      have Ea : Go.bits .or .u32 0 ((((⟨#[a]⟩ : ByteArray)[0]'(by simp [ByteArray.size])).toNat : Int) % 4294967296 * 65536 % 4294967296) = (na : Int) := by
        show Go.bits .or .u32 ((0 : Nat) : Int) ((a.toNat : Int) % 4294967296 * 65536 % 4294967296) = _
        have e : (a.toNat : Int) % 4294967296 * 65536 % 4294967296 = ((a.toNat * 65536 : Nat) : Int) := by omega
        rw [e, bits_or 0 (a.toNat * 65536) 16 (by omega) (by omega) (by omega) (by decide)]; congr 1; omega
      have p1 : ∀ W, Calls Tryz.prog 145 #[.int .u32 (na : Int), .int .i64 1] W fun e w' => e = .returned (.int .u8 ((sgn (na / 2 ^ 12 % 64)).toNat : Int)) ∧ Drawn0 W w' := fun W => part_at na 1 (by omega) (by decide) W
      have p0 : ∀ W, Calls Tryz.prog 145 #[.int .u32 (na : Int), .int .i64 0] W fun e w' => e = .returned (.int .u8 ((sgn (na / 2 ^ 18 % 64)).toNat : Int)) ∧ Drawn0 W w' := fun W => part_at na 0 (by omega) (by decide) W
      obtain ⟨z1, hz1⟩ : ∃ z, sgn (na / 2 ^ 12 % 64) = z := ⟨_, rfl⟩
      rw [hz1] at p1
      have P1 := Aside0.mk p1
      have HZ1 := Aside0.mk hz1
      clear p1 hz1
      obtain ⟨z0, hz0⟩ : ∃ z, sgn (na / 2 ^ 18 % 64) = z := ⟨_, rfl⟩
      rw [hz0] at p0
      have P0 := Aside0.mk p0
      have HZ0 := Aside0.mk hz0
      clear p0 hz0
      have Hna := Aside0.mk hna
      clear hna
      have HL := Aside0.mk (show True from trivial)
      go_wp2_with (first
        | (go_at_call 145; (with_reducible refine (P1.out _).mono ?_); rintro e w' ⟨rfl, ⟨nd1, rfl⟩⟩)
        | (go_at_call 145; (with_reducible refine (P0.out _).mono ?_); rintro e w' ⟨rfl, ⟨nd0, rfl⟩⟩))
      rw [conv4 _ w.heap.size (z0) (z1) 61 61 (by exact (heap_set (k := 0) (cs := #[.int .u8 61, .int .u8 (z1.toNat : Int), .int .u8 61, .int .u8 61]) (v := .int .u8 (z0.toNat : Int)) (heap_set (k := 1) (cs := #[.int .u8 61, .int .u8 61, .int .u8 61, .int .u8 61]) (v := .int .u8 (z1.toNat : Int)) hH)))]
      simp only [Result.andThen]
      rw [Oper.upon_value]
      go_wp2
      go_ret
      refine ⟨?_, ?_⟩
      · congr 2
        have r0 : z0 = sgn (a.toNat / 4) := by rw [← HZ0.out]; congr 1; have := Hna.out; omega
        have r1 : z1 = sgn (a.toNat % 4 * 16) := by rw [← HZ1.out]; congr 1; have := Hna.out; omega
        rw [r0, r1]; rfl
      · repeat (first | exact HB.out | apply pw_below_drewN | refine Below.setCell ?_ (by exact Nat.le_refl _) _)
set_option maxRecDepth 100000 in
set_option maxHeartbeats 4000000 in
theorem group2 (a b : UInt8) (w : World) : Calls Tryz.prog 128 #[.string ⟨#[a, b]⟩] w fun e w' => e = .returned (.string (ba (enc [a, b]))) ∧ Below w.heap.size w w' := by
  go_enter Tryz.func128, Tryz.ntmps128
  go_wp2
  go_loopg [5, 6] 4 (fun gg _ v6 wr => ∃ kk : Nat, kk ≤ 4 ∧ 4 - kk ≤ gg ∧ v6 = .int .i64 kk ∧ Aside0 (wr.heap[w.heap.size]? = some (.cells (row4 kk) 138 (0, 0))) ∧ Aside0 (Below w.heap.size w wr))
  case atStart => exact ⟨0, Nat.zero_le _, by omega, rfl, ⟨heap_alloc_new w _⟩, ⟨below_alloc (Below.refl _ _) _⟩⟩
  case round =>
    obtain ⟨kk, hkk, hg, rfl, HH, HB⟩ := hrel
    by_cases hlt : kk < 4
    · have hltz : (kk : Int) < 4 := by omega
      have hc := (heap_cell HH.out kk).trans (row4_next kk hlt).2
      have hf := heap_free HH.out kk
      go_wp2
      go_roundg (4 - (kk + 1))
      case measure => omega
      case rel =>
        refine ⟨kk + 1, by omega, by omega, by go_num, ⟨?_⟩, ⟨HB.out.setCell (p := ⟨w.heap.size, kk, none⟩) (Nat.le_refl _) _⟩⟩
        rw [← (row4_next kk hlt).1]
        exact heap_set HH.out
    · have hltz : ¬ (kk : Int) < 4 := by omega
      have : kk = 4 := by omega
      subst this
      have hH : wr.heap[w.heap.size]? = some (.cells #[.int .u8 61, .int .u8 61, .int .u8 61, .int .u8 61] 138 (0, 0)) := HH.out
      have c0 := heap_cell hH 0
      have c1 := heap_cell hH 1
      have c2 := heap_cell hH 2
      have c3 := heap_cell hH 3
      have f0 := heap_free hH 0
      have f1 := heap_free hH 1
      have f2 := heap_free hH 2
      have f3 := heap_free hH 3
      have la := a.toNat_lt
      have lb := b.toNat_lt
      obtain ⟨nb, hnb⟩ : ∃ k : Nat, k = b.toNat * 256 := ⟨_, rfl⟩
      have Eb : Go.bits .or .u32 0 ((((⟨#[a, b]⟩ : ByteArray)[1]'(by simp [ByteArray.size])).toNat : Int) % 4294967296 * 256 % 4294967296) = (nb : Int) := by
        show Go.bits .or .u32 ((0 : Nat) : Int) ((b.toNat : Int) % 4294967296 * 256 % 4294967296) = _
        have e : (b.toNat : Int) % 4294967296 * 256 % 4294967296 = ((b.toNat * 256 : Nat) : Int) := by omega
        rw [e, bits_or 0 (b.toNat * 256) 8 (by omega) (by omega) (by omega) (by decide)]; congr 1; omega
      have p2 : ∀ W, Calls Tryz.prog 145 #[.int .u32 (nb : Int), .int .i64 2] W fun e w' => e = .returned (.int .u8 ((sgn (nb / 2 ^ 6 % 64)).toNat : Int)) ∧ Drawn0 W w' := fun W => part_at nb 2 (by omega) (by decide) W
      obtain ⟨na, hna⟩ : ∃ k : Nat, k = b.toNat * 256 + a.toNat * 65536 := ⟨_, rfl⟩
      have Ea : Go.bits .or .u32 (nb : Int) ((((⟨#[a, b]⟩ : ByteArray)[0]'(by simp [ByteArray.size])).toNat : Int) % 4294967296 * 65536 % 4294967296) = (na : Int) := by
        show Go.bits .or .u32 (nb : Int) ((a.toNat : Int) % 4294967296 * 65536 % 4294967296) = _
        have e : (a.toNat : Int) % 4294967296 * 65536 % 4294967296 = ((a.toNat * 65536 : Nat) : Int) := by omega
        rw [e, bits_or nb (a.toNat * 65536) 16 (by omega) (by omega) (by omega) (by decide)]; congr 1; omega
      have p1 : ∀ W, Calls Tryz.prog 145 #[.int .u32 (na : Int), .int .i64 1] W fun e w' => e = .returned (.int .u8 ((sgn (na / 2 ^ 12 % 64)).toNat : Int)) ∧ Drawn0 W w' := fun W => part_at na 1 (by omega) (by decide) W
      have p0 : ∀ W, Calls Tryz.prog 145 #[.int .u32 (na : Int), .int .i64 0] W fun e w' => e = .returned (.int .u8 ((sgn (na / 2 ^ 18 % 64)).toNat : Int)) ∧ Drawn0 W w' := fun W => part_at na 0 (by omega) (by decide) W
      obtain ⟨z2, hz2⟩ : ∃ z, sgn (nb / 2 ^ 6 % 64) = z := ⟨_, rfl⟩
      rw [hz2] at p2
      have P2 := Aside0.mk p2
      have HZ2 := Aside0.mk hz2
      clear p2 hz2
      obtain ⟨z1, hz1⟩ : ∃ z, sgn (na / 2 ^ 12 % 64) = z := ⟨_, rfl⟩
      rw [hz1] at p1
      have P1 := Aside0.mk p1
      have HZ1 := Aside0.mk hz1
      clear p1 hz1
      obtain ⟨z0, hz0⟩ : ∃ z, sgn (na / 2 ^ 18 % 64) = z := ⟨_, rfl⟩
      rw [hz0] at p0
      have P0 := Aside0.mk p0
      have HZ0 := Aside0.mk hz0
      clear p0 hz0
      have Hnb := Aside0.mk hnb
      clear hnb
      have Hna := Aside0.mk hna
      clear hna
      have HL := Aside0.mk (show True from trivial)
      go_wp2_with (first
        | (go_at_call 145; (with_reducible refine (P2.out _).mono ?_); rintro e w' ⟨rfl, ⟨nd2, rfl⟩⟩)
        | (go_at_call 145; (with_reducible refine (P1.out _).mono ?_); rintro e w' ⟨rfl, ⟨nd1, rfl⟩⟩)
        | (go_at_call 145; (with_reducible refine (P0.out _).mono ?_); rintro e w' ⟨rfl, ⟨nd0, rfl⟩⟩))
      rw [conv4 _ w.heap.size (z0) (z1) (z2) 61 (by exact (heap_set (k := 0) (cs := #[.int .u8 61, .int .u8 (z1.toNat : Int), .int .u8 (z2.toNat : Int), .int .u8 61]) (v := .int .u8 (z0.toNat : Int)) (heap_set (k := 1) (cs := #[.int .u8 61, .int .u8 61, .int .u8 (z2.toNat : Int), .int .u8 61]) (v := .int .u8 (z1.toNat : Int)) (heap_set (k := 2) (cs := #[.int .u8 61, .int .u8 61, .int .u8 61, .int .u8 61]) (v := .int .u8 (z2.toNat : Int)) hH))))]
      simp only [Result.andThen]
      rw [Oper.upon_value]
      go_wp2
      go_ret
      refine ⟨?_, ?_⟩
      · congr 2
        have r0 : z0 = sgn (a.toNat / 4) := by rw [← HZ0.out]; congr 1; have := Hna.out; have := Hnb.out; omega
        have r1 : z1 = sgn (a.toNat % 4 * 16 + b.toNat / 16) := by rw [← HZ1.out]; congr 1; have := Hna.out; have := Hnb.out; omega
        have r2 : z2 = sgn (b.toNat % 16 * 4) := by rw [← HZ2.out]; congr 1; have := Hnb.out; have := Hna.out; omega
        rw [r0, r1, r2]; rfl
      · repeat (first | exact HB.out | apply pw_below_drewN | refine Below.setCell ?_ (by exact Nat.le_refl _) _)
set_option maxRecDepth 100000 in
set_option maxHeartbeats 4000000 in
theorem group3 (a b c : UInt8) (w : World) : Calls Tryz.prog 128 #[.string ⟨#[a, b, c]⟩] w fun e w' => e = .returned (.string (ba (enc [a, b, c]))) ∧ Below w.heap.size w w' := by
  go_enter Tryz.func128, Tryz.ntmps128
  go_wp2
  go_loopg [5, 6] 4 (fun gg _ v6 wr => ∃ kk : Nat, kk ≤ 4 ∧ 4 - kk ≤ gg ∧ v6 = .int .i64 kk ∧ Aside0 (wr.heap[w.heap.size]? = some (.cells (row4 kk) 138 (0, 0))) ∧ Aside0 (Below w.heap.size w wr))
  case atStart => exact ⟨0, Nat.zero_le _, by omega, rfl, ⟨heap_alloc_new w _⟩, ⟨below_alloc (Below.refl _ _) _⟩⟩
  case round =>
    obtain ⟨kk, hkk, hg, rfl, HH, HB⟩ := hrel
    by_cases hlt : kk < 4
    · have hltz : (kk : Int) < 4 := by omega
      have hc := (heap_cell HH.out kk).trans (row4_next kk hlt).2
      have hf := heap_free HH.out kk
      go_wp2
      go_roundg (4 - (kk + 1))
      case measure => omega
      case rel =>
        refine ⟨kk + 1, by omega, by omega, by go_num, ⟨?_⟩, ⟨HB.out.setCell (p := ⟨w.heap.size, kk, none⟩) (Nat.le_refl _) _⟩⟩
        rw [← (row4_next kk hlt).1]
        exact heap_set HH.out
    · have hltz : ¬ (kk : Int) < 4 := by omega
      have : kk = 4 := by omega
      subst this
      have hH : wr.heap[w.heap.size]? = some (.cells #[.int .u8 61, .int .u8 61, .int .u8 61, .int .u8 61] 138 (0, 0)) := HH.out
      have c0 := heap_cell hH 0
      have c1 := heap_cell hH 1
      have c2 := heap_cell hH 2
      have c3 := heap_cell hH 3
      have f0 := heap_free hH 0
      have f1 := heap_free hH 1
      have f2 := heap_free hH 2
      have f3 := heap_free hH 3
      have la := a.toNat_lt
      have lb := b.toNat_lt
      have lc := c.toNat_lt
      obtain ⟨nc, hnc⟩ : ∃ k : Nat, k = c.toNat := ⟨_, rfl⟩
      have Ec : Go.bits .or .u32 0 ((((⟨#[a, b, c]⟩ : ByteArray)[2]'(by simp [ByteArray.size])).toNat : Int) % 4294967296) = (nc : Int) := by
        show Go.bits .or .u32 ((0 : Nat) : Int) ((c.toNat : Int) % 4294967296) = _
        have e : (c.toNat : Int) % 4294967296 = ((c.toNat : Nat) : Int) := by omega
        rw [e, bits_or 0 (c.toNat) 0 (by omega) (by omega) (by omega) (by decide)]; congr 1; omega
      have p3 : ∀ W, Calls Tryz.prog 145 #[.int .u32 (nc : Int), .int .i64 3] W fun e w' => e = .returned (.int .u8 ((sgn (nc / 2 ^ 0 % 64)).toNat : Int)) ∧ Drawn0 W w' := fun W => part_at nc 3 (by omega) (by decide) W
      obtain ⟨nb, hnb⟩ : ∃ k : Nat, k = c.toNat + b.toNat * 256 := ⟨_, rfl⟩
      have Eb : Go.bits .or .u32 (nc : Int) ((((⟨#[a, b, c]⟩ : ByteArray)[1]'(by simp [ByteArray.size])).toNat : Int) % 4294967296 * 256 % 4294967296) = (nb : Int) := by
        show Go.bits .or .u32 (nc : Int) ((b.toNat : Int) % 4294967296 * 256 % 4294967296) = _
        have e : (b.toNat : Int) % 4294967296 * 256 % 4294967296 = ((b.toNat * 256 : Nat) : Int) := by omega
        rw [e, bits_or nc (b.toNat * 256) 8 (by omega) (by omega) (by omega) (by decide)]; congr 1; omega
      have p2 : ∀ W, Calls Tryz.prog 145 #[.int .u32 (nb : Int), .int .i64 2] W fun e w' => e = .returned (.int .u8 ((sgn (nb / 2 ^ 6 % 64)).toNat : Int)) ∧ Drawn0 W w' := fun W => part_at nb 2 (by omega) (by decide) W
      obtain ⟨na, hna⟩ : ∃ k : Nat, k = c.toNat + b.toNat * 256 + a.toNat * 65536 := ⟨_, rfl⟩
      have Ea : Go.bits .or .u32 (nb : Int) ((((⟨#[a, b, c]⟩ : ByteArray)[0]'(by simp [ByteArray.size])).toNat : Int) % 4294967296 * 65536 % 4294967296) = (na : Int) := by
        show Go.bits .or .u32 (nb : Int) ((a.toNat : Int) % 4294967296 * 65536 % 4294967296) = _
        have e : (a.toNat : Int) % 4294967296 * 65536 % 4294967296 = ((a.toNat * 65536 : Nat) : Int) := by omega
        rw [e, bits_or nb (a.toNat * 65536) 16 (by omega) (by omega) (by omega) (by decide)]; congr 1; omega
      have p1 : ∀ W, Calls Tryz.prog 145 #[.int .u32 (na : Int), .int .i64 1] W fun e w' => e = .returned (.int .u8 ((sgn (na / 2 ^ 12 % 64)).toNat : Int)) ∧ Drawn0 W w' := fun W => part_at na 1 (by omega) (by decide) W
      have p0 : ∀ W, Calls Tryz.prog 145 #[.int .u32 (na : Int), .int .i64 0] W fun e w' => e = .returned (.int .u8 ((sgn (na / 2 ^ 18 % 64)).toNat : Int)) ∧ Drawn0 W w' := fun W => part_at na 0 (by omega) (by decide) W
      obtain ⟨z3, hz3⟩ : ∃ z, sgn (nc / 2 ^ 0 % 64) = z := ⟨_, rfl⟩
      rw [hz3] at p3
      have P3 := Aside0.mk p3
      have HZ3 := Aside0.mk hz3
      clear p3 hz3
      obtain ⟨z2, hz2⟩ : ∃ z, sgn (nb / 2 ^ 6 % 64) = z := ⟨_, rfl⟩
      rw [hz2] at p2
      have P2 := Aside0.mk p2
      have HZ2 := Aside0.mk hz2
      clear p2 hz2
      obtain ⟨z1, hz1⟩ : ∃ z, sgn (na / 2 ^ 12 % 64) = z := ⟨_, rfl⟩
      rw [hz1] at p1
      have P1 := Aside0.mk p1
      have HZ1 := Aside0.mk hz1
      clear p1 hz1
      obtain ⟨z0, hz0⟩ : ∃ z, sgn (na / 2 ^ 18 % 64) = z := ⟨_, rfl⟩
      rw [hz0] at p0
      have P0 := Aside0.mk p0
      have HZ0 := Aside0.mk hz0
      clear p0 hz0
      have Hnc := Aside0.mk hnc
      clear hnc
      have Hnb := Aside0.mk hnb
      clear hnb
      have Hna := Aside0.mk hna
      clear hna
      have HL := Aside0.mk (show True from trivial)
      go_wp2_with (first
        | (go_at_call 145; (with_reducible refine (P3.out _).mono ?_); rintro e w' ⟨rfl, ⟨nd3, rfl⟩⟩)
        | (go_at_call 145; (with_reducible refine (P2.out _).mono ?_); rintro e w' ⟨rfl, ⟨nd2, rfl⟩⟩)
        | (go_at_call 145; (with_reducible refine (P1.out _).mono ?_); rintro e w' ⟨rfl, ⟨nd1, rfl⟩⟩)
        | (go_at_call 145; (with_reducible refine (P0.out _).mono ?_); rintro e w' ⟨rfl, ⟨nd0, rfl⟩⟩))
      rw [conv4 _ w.heap.size (z0) (z1) (z2) (z3) (by exact (heap_set (k := 0) (cs := #[.int .u8 61, .int .u8 (z1.toNat : Int), .int .u8 (z2.toNat : Int), .int .u8 (z3.toNat : Int)]) (v := .int .u8 (z0.toNat : Int)) (heap_set (k := 1) (cs := #[.int .u8 61, .int .u8 61, .int .u8 (z2.toNat : Int), .int .u8 (z3.toNat : Int)]) (v := .int .u8 (z1.toNat : Int)) (heap_set (k := 2) (cs := #[.int .u8 61, .int .u8 61, .int .u8 61, .int .u8 (z3.toNat : Int)]) (v := .int .u8 (z2.toNat : Int)) (heap_set (k := 3) (cs := #[.int .u8 61, .int .u8 61, .int .u8 61, .int .u8 61]) (v := .int .u8 (z3.toNat : Int)) hH)))))]
      simp only [Result.andThen]
      rw [Oper.upon_value]
      go_wp2
      go_ret
      refine ⟨?_, ?_⟩
      · congr 2
        have r0 : z0 = sgn (a.toNat / 4) := by rw [← HZ0.out]; congr 1; have := Hna.out; have := Hnc.out; have := Hnb.out; omega
        have r1 : z1 = sgn (a.toNat % 4 * 16 + b.toNat / 16) := by rw [← HZ1.out]; congr 1; have := Hna.out; have := Hnc.out; have := Hnb.out; omega
        have r2 : z2 = sgn (b.toNat % 16 * 4 + c.toNat / 64) := by rw [← HZ2.out]; congr 1; have := Hnb.out; have := Hnc.out; have := Hna.out; omega
        have r3 : z3 = sgn (c.toNat % 64) := by rw [← HZ3.out]; congr 1; have := Hnc.out; have := Hnb.out; have := Hna.out; omega
        rw [r0, r1, r2, r3]; rfl
      · repeat (first | exact HB.out | apply pw_below_drewN | refine Below.setCell ?_ (by exact Nat.le_refl _) _)
theorem group_calls (l : List UInt8) (h0 : 0 < l.length) (h3 : l.length ≤ 3) (w : World) : Calls Tryz.prog 128 #[.string (ba l)] w fun e w' => e = .returned (.string (ba (enc l))) ∧ Below w.heap.size w w' := by
  match l, h0, h3 with
  | [a], _, _ => exact group1 a w
  | [a, b], _, _ => exact group2 a b w
  | [a, b, c], _, _ => exact group3 a b c w
theorem enc_step (l : List UInt8) (h : l ≠ []) : enc l = enc (l.take 3) ++ enc (l.drop 3) := by
  match l, h with
  | [a], _ => simp [enc]
  | [a, b], _ => simp [enc]
  | a :: b :: c :: t, _ => simp [enc]
theorem enc_len : ∀ d : List UInt8, (enc d).length = (d.length + 2) / 3 * 4
  | [] => rfl
  | [a] => by simp [enc]
  | [a, b] => by simp [enc]
  | a :: b :: c :: t => by
    have := enc_len t
    simp only [enc, List.length_cons]
    omega
attribute [local go_sem] max2_int min2_int max_two min_two
set_option maxRecDepth 100000 in
set_option maxHeartbeats 4000000 in
theorem encode_calls (s : ByteArray) (hs : (enc s.data.toList).length ≤ 140737488355328) (w : World) :
    Calls Tryz.prog 98 #[.string s] w fun e w' => e = .returned (.string (ba (enc s.data.toList))) ∧ Below w.heap.size w w' := by
  obtain ⟨L, hL⟩ : ∃ L, L = enc s.data.toList := ⟨_, rfl⟩
  rw [← hL]
  have HL := Aside0.mk hL
  have HS := Aside0.mk hs
  clear hL hs
  go_enter Tryz.func98, Tryz.ntmps98
  go_wp2
  go_loopg [0, 4] s.size (fun gg v0 _ wr => ∃ (out : List UInt8) (rest : ByteArray), v0 = .string rest ∧ rest.size ≤ gg ∧ Aside0 (L = out ++ enc rest.data.toList) ∧ Aside0 (IsB w.heap.size w.heap.size (Lib.byteCells out) wr) ∧ Aside0 (Below w.heap.size w wr))
  case atStart => exact ⟨[], s, rfl, Nat.le_refl _, ⟨by rw [HL.out]; rfl⟩, ⟨isB_new w⟩, ⟨below_alloc (Below.refl _ _) _⟩⟩
  case round =>
    obtain ⟨out, rest, rfl, hg, HO, HI, HB⟩ := hrel
    have hsz := Lib.size_eq rest
    have hls : rest.toList = rest.data.toList := ByteArray.toList_eq rest
    by_cases hn : rest.data.toList = []
    · have i0 : rest.toList = [] := hls.trans hn
      have j0 : rest.toList.isEmpty = true := by rw [i0]; rfl
      have ho := HO.out
      rw [hn] at ho
      have hout : out = L := by rw [ho]; simp [enc]
      have HOUT := Aside0.mk hout
      have hstr := fun W (h : IsB w.heap.size w.heap.size (Lib.byteCells out) W) (h2 : w.heap.size ≤ W.heap.size) => bld_string w.heap.size w.heap.size out W h h2
      clear ho hout hls hn
      go_wp2_with (go_at_call 40; (with_reducible refine (hstr _ HI.out HB.out.size).mono ?_); rintro e w2 ⟨rfl, hb2⟩)
      go_ret
      refine ⟨?_, HB.out.trans hb2⟩
      rw [← HOUT.out]; rfl
    · have i0 : ¬ rest.toList = [] := fun e => hn (hls.symm.trans e)
      have j0 : rest.toList.isEmpty = false := List.isEmpty_eq_false_iff.2 i0
      have hpos : 0 < rest.size := by rw [hsz]; exact List.length_pos_iff.2 hn
      have hst := enc_step rest.data.toList hn
      have ho := HO.out
      have hb63 : rest.size ≤ 9223372036854775807 := by
        have h1 := HS.out
        have h2 := enc_len rest.data.toList
        rw [← HL.out, ho] at h1
        simp only [List.length_append] at h1
        omega
      rw [hst, ← List.append_assoc] at ho
      have hlL : out.length + (enc (rest.data.toList.take 3)).length ≤ 140737488355328 := by
        have h1 := HS.out
        rw [← HL.out, ho] at h1
        simp only [List.length_append] at h1
        omega
      have hg3 : ∀ W, Calls Tryz.prog 128 #[.string (ba (rest.data.toList.take 3))] W fun e w' => e = .returned (.string (ba (enc (rest.data.toList.take 3)))) ∧ Below W.heap.size W w' :=
        fun W => group_calls (rest.data.toList.take 3) (by rw [List.length_take]; omega) (by rw [List.length_take]; omega) W
      have hwr := fun W (h : IsB w.heap.size w.heap.size (Lib.byteCells out) W) (h2 : w.heap.size ≤ W.heap.size) => bld_write w.heap.size w.heap.size (Lib.byteCells out) (ba (enc (rest.data.toList.take 3))) W h (by rw [ba_size, Lib.byteCells_length]; exact hlL) h2
      rw [strCells_bytes, ba_data] at hwr
      have G3 := Aside0.mk hg3
      have WR := Aside0.mk hwr
      have HO2 := Aside0.mk ho
      clear hg3 hwr ho hst hlL hls
      by_cases h3 : rest.size < 3
      · have h3z : (rest.size : Int) < 3 := by omega
        have et : rest.data.toList.take 3 = rest.data.toList := List.take_of_length_le (by omega)
        have ex2 : ba (rest.data.toList.take 3) = rest := by rw [et]; rfl
        have hd : rest.data.toList.drop 3 = [] := List.drop_eq_nil_of_le (by omega)
        have g3 := G3.out
        rw [ex2] at g3
        have G4 := Aside0.mk g3
        have HD := Aside0.mk hd
        have HP := Aside0.mk hpos
        clear et ex2 hsz hn hd g3 hpos
        go_wp2_with (first
          | (go_at_call 128; (with_reducible refine (G4.out _).mono ?_); rintro e w2 ⟨rfl, hb2⟩; have HI2 := Aside0.mk (HI.out.below hb2); have HB2 := Aside0.mk (below_step HB.out hb2); clear hb2)
          | (go_at_call 39; (with_reducible refine (WR.out _ HI2.out HB2.out.size).mono ?_); rintro e w3 ⟨rfl, hi3, hb3⟩; have HI3 := Aside0.mk hi3; have HB3 := Aside0.mk (HB2.out.trans hb3); clear hi3 hb3))
        go_roundg 0
        case measure => have := HP.out; omega
        case rel =>
          refine ⟨out ++ enc (rest.data.toList.take 3), ⟨#[]⟩, ?_, Nat.le_refl _, ⟨?_⟩, HI3, HB3⟩
          · first | rfl | (congr 1; apply by_data; rw [Lib.extract_to_end]; simp)
          · rw [HO2.out, HD.out]
      · have h3z : ¬ (rest.size : Int) < 3 := by omega
        have ex2 : ba (rest.data.toList.take 3) = rest.extract 0 3 := by
          apply by_data
          rw [Lib.extract_data]; simp [ba_data]
        have hd : (rest.extract 3 rest.size).data.toList = rest.data.toList.drop 3 := Lib.extract_to_end rest 3
        have hds : (rest.extract 3 rest.size).size + 3 = rest.size := by
          rw [Lib.size_eq, hd, List.length_drop]; omega
        have h3b : (3 : Int) ≤ (rest.size : Int) := by omega
        have g3 := G3.out
        rw [ex2] at g3
        have G4 := Aside0.mk g3
        have HD := Aside0.mk hd
        have HDS := Aside0.mk hds
        clear ex2 hsz hn hd g3 hpos hds
        go_wp2_with (first
          | (go_at_call 128; (with_reducible refine (G4.out _).mono ?_); rintro e w2 ⟨rfl, hb2⟩; have HI2 := Aside0.mk (HI.out.below hb2); have HB2 := Aside0.mk (below_step HB.out hb2); clear hb2)
          | (go_at_call 39; (with_reducible refine (WR.out _ HI2.out HB2.out.size).mono ?_); rintro e w3 ⟨rfl, hi3, hb3⟩; have HI3 := Aside0.mk hi3; have HB3 := Aside0.mk (HB2.out.trans hb3); clear hi3 hb3))
        go_roundg (rest.size - 3)
        case measure => omega
        case rel =>
          refine ⟨out ++ enc (rest.data.toList.take 3), rest.extract 3 rest.size, rfl, by have := HDS.out; omega, ⟨?_⟩, HI3, HB3⟩
          rw [HO2.out, HD.out]
theorem below_cell {w W : World} {q : Addr} {v : Value} (hb : Below w.heap.size w W) (h : w.cell? q = some v) : W.cell? q = some v := (hb.cell (World.block_lt_of_cell? w _ h)).trans h
theorem index_at (b : UInt8) (w : World) : Calls Tryz.prog 97 #[.string ⟨#[65, 66, 67, 68, 69, 70, 71, 72, 73, 74, 75, 76, 77, 78, 79, 80, 81, 82, 83, 84, 85, 86, 87, 88, 89, 90, 97, 98, 99, 100, 101, 102, 103, 104, 105, 106, 107, 108, 109, 110, 111, 112, 113, 114, 115, 116, 117, 118, 119, 120, 121, 122, 48, 49, 50, 51, 52, 53, 54, 55, 56, 57, 43, 47]⟩, .int .u8 (b.toNat : Int)] w fun e w' => e = .returned (.int .i64 (numS b)) ∧ w = w' := by
  have h := Tryz.strings_IndexByte ⟨#[65, 66, 67, 68, 69, 70, 71, 72, 73, 74, 75, 76, 77, 78, 79, 80, 81, 82, 83, 84, 85, 86, 87, 88, 89, 90, 97, 98, 99, 100, 101, 102, 103, 104, 105, 106, 107, 108, 109, 110, 111, 112, 113, 114, 115, 116, 117, 118, 119, 120, 121, 122, 48, 49, 50, 51, 52, 53, 54, 55, 56, 57, 43, 47]⟩ (b.toNat : Int) w
  have e : ((b.toNat : Int)).toNat.toUInt8 = b := by rw [Int.toNat_natCast]; exact UInt8.ofNat_toNat
  rw [e] at h
  exact h.mono fun e w' h => ⟨h.1, h.2.symm⟩
/-- Bytes as numbers. -/
def ints (l : List UInt8) : List Int := l.map fun b => (b.toNat : Int)
theorem conv_row (W : World) (A : Option Addr) (c : Nat) (l : List UInt8) (h : Kd.C (Kd.int .u8) W A (ints l).length (ints l)) :
    (convert 64 9 (.slice A (ints l).length c)).run Tryz.prog W = .ok (.string (ba l)) W := by
  have hlen : (ints l).length = l.length := by simp [ints]
  cases A with
  | none =>
    have h0 : l = [] := by
      rcases l with _ | ⟨b, l⟩
      · rfl
      · obtain ⟨ad, cs, hA, _⟩ := Kd.C_get h (0 : Int) 0 (by omega) (by simp [ints])
        cases hA
    subst h0
    exact run_convert_bytes_nil W 64 5 Tryz.underlying64 Tryz.underlying5 _ _ 9 Tryz.underlying9
  | some ad =>
    rw [hlen]
    refine run_convert_bytes_back W 64 9 5 ad c l Tryz.underlying64 Tryz.underlying5 Tryz.underlying9 (fun j hj => ?_)
    obtain ⟨ad2, cs, hA, _, hK, hcell⟩ := Kd.C_get h (0 : Int) (j : Int) (by omega) (by omega)
    obtain rfl := Option.some.inj hA
    have hx : (ints l).getD (j : Int).toNat 0 = (l[j].toNat : Int) := by
      rw [Int.toNat_natCast, List.getD_eq_getElem?_getD]
      simp [ints, List.getElem?_map, List.getElem?_eq_getElem hj]
    rw [hx] at hK
    obtain rfl : cs = [.int .u8 (l[j].toNat : Int)] := hK
    have h0 := hcell 0 _ rfl
    rw [Int.toNat_natCast, show (Kd.int .u8).sz = 1 from rfl] at h0
    simpa using h0
theorem dec_cons (n bits : Nat) (c : UInt8) (t : List UInt8) (h : ¬ numS c < 0) : dec n bits (c :: t) = if 8 ≤ bits + 6 then (dec ((n * 64 + (numS c).toNat) % 4096) (bits - 2) t).map (UInt8.ofNat ((n * 64 + (numS c).toNat) % 4096 / 2 ^ (bits - 2)) :: ·) else dec ((n * 64 + (numS c).toNat) % 4096) (bits + 6) t := by
  show (if numS c < 0 then none else _) = _
  rw [if_neg h]
theorem dec_bad (n bits : Nat) (c : UInt8) (t : List UInt8) (h : numS c < 0) : dec n bits (c :: t) = none := by
  show (if numS c < 0 then none else _) = _
  rw [if_pos h]
def outD : Option (List UInt8) → ByteArray
  | none => ⟨#[]⟩
  | some d => ba d
def b64_Decode.f (a0 : ByteArray) : Option (ByteArray × Bool) := if a0.size ≤ 140737488355328 then some (outD (decOf a0.data.toList), (decOf a0.data.toList).isSome) else none
set_option maxRecDepth 100000 in
set_option maxHeartbeats 4000000 in
theorem decode_walk (s : ByteArray) (hs : s.size ≤ 140737488355328) (r : Option (List UInt8)) (hr : r = decOf s.data.toList) (w : World) :
    Calls Tryz.prog 65 #[.string s] w fun e w' => e = .returned (.tuple #[.string (outD r), .bool r.isSome]) ∧ Below w.heap.size w w' := by
  obtain ⟨T, hT⟩ : ∃ T : ByteArray, T = ⟨(Lib.trimRightB s.data.toList 61).toArray⟩ := ⟨_, rfl⟩
  have htr : ∀ W, Calls Tryz.prog 96 #[.string s, .string ⟨#[61]⟩] W fun e w' => e = .returned (.string T) ∧ W = w' := fun W => (hT ▸ Tryz.strings_TrimRight_one s 61 (by decide) W (by omega)).mono fun e w' h => ⟨h.1, h.2.symm⟩
  have hTd : T.data.toList = trimEq s.data.toList := by rw [hT]; rfl
  have hTs : T.size ≤ 140737488355328 := by
    rw [Lib.size_eq, hTd]
    unfold trimEq
    rw [List.length_reverse]
    have := (List.dropWhile_sublist (fun b : UInt8 => b == 61) (l := s.data.toList.reverse)).length_le
    rw [List.length_reverse, ← Lib.size_eq] at this
    omega
  have HTR := Aside0.mk htr
  have HTD := Aside0.mk hTd
  have HR := Aside0.mk hr
  have HSZ := Aside0.mk hs
  clear htr hT hTd hr hs
  go_enter Tryz.func65, Tryz.ntmps65
  go_wp2_with (go_at_call 96; (with_reducible refine (HTR.out _).mono ?_); rintro e w' ⟨rfl, rfl⟩)
  rw [Lib.run_convert_string_bytes w 9 64 5 T Tryz.underlying9 Tryz.underlying64 Tryz.underlying5]
  simp only [Result.andThen]
  rw [Oper.upon_value]
  have hc0 := Lib.bytesWorld_cell w 5 T
  have hsz0 := Lib.bytesWorld_size w 5 T
  have hb0 : Below w.heap.size w (Lib.bytesWorld w 5 T) := Go.Joins.below_bytesWorld _ _ _ _ (Nat.le_refl _)
  generalize Lib.bytesWorld w 5 T = w1 at hc0 hsz0 hb0 ⊢
  obtain ⟨n, hn⟩ : ∃ n, n = T.size := ⟨_, rfl⟩
  rw [← hn] at hc0 hTs ⊢
  have hb63 : n ≤ 9223372036854775807 := by omega
  have HC0 := Aside0.mk hc0
  have HB0 := Aside0.mk hb0
  have HS0 := Aside0.mk hsz0
  have HN := Aside0.mk hn
  have HTS := Aside0.mk hTs
  clear hc0 hb0 hsz0 hn hTs
  go_wp2
  go_loopg [4, 5, 6, 8, 9, 14] n (fun gg v4 v5 v6 _ _ v14 wr => ∃ (kk x bb : Nat) (out : List UInt8), kk ≤ n ∧ n - kk ≤ gg ∧ x < 4294967296 ∧ (bb = 0 ∨ bb = 2 ∨ bb = 4 ∨ bb = 6) ∧ 8 * out.length + bb = 6 * kk ∧ v5 = .int .u32 x ∧ v6 = .int .i64 bb ∧ v14 = .int .i64 kk ∧ Aside0 (Kd.R (Kd.int .u8) 5 wr w1.heap.size (fun _ => True) v4 (ints out)) ∧ Aside0 (dec 0 0 T.data.toList = (dec (x % 4096) bb (T.data.toList.drop kk)).map (out ++ ·)) ∧ Aside0 (Below w1.heap.size w1 wr))
  case atStart => exact ⟨0, 0, 0, [], Nat.zero_le _, by omega, by decide, .inl rfl, rfl, rfl, rfl, rfl, ⟨Kd.R_nil _ _ _ _ _⟩, ⟨by cases h : dec 0 0 T.data.toList <;> simp [h]⟩, ⟨Below.refl _ _⟩⟩
  case round =>
    obtain ⟨kk, x, bb, out, hkk, hg, hx32, hbb, hlen, rfl, rfl, rfl, HO, HD, HB⟩ := hrel
    by_cases hlt : kk < n
    · have hltz : (kk : Int) < (n : Int) := by omega
      have hlT : kk < T.data.toList.length := by rw [← Lib.size_eq, ← HN.out]; exact hlt
      obtain ⟨b, hb⟩ : ∃ b, T.data.toList[kk]? = some b := ⟨_, List.getElem?_eq_getElem hlT⟩
      have hcell : wr.cell? ⟨w.heap.size, kk, none⟩ = some (.int .u8 (b.toNat : Int)) := by
        have h0 := HC0.out kk hlt
        rw [List.getD_eq_getElem?_getD, hb] at h0
        exact below_cell HB.out h0
      have hdrop : T.data.toList.drop kk = b :: T.data.toList.drop (kk + 1) := by
        rw [List.drop_eq_getElem_cons hlT]
        congr 1
        rw [List.getElem?_eq_getElem hlT] at hb
        exact Option.some.inj hb
      have hd := HD.out
      rw [hdrop] at hd
      have hix := index_at b
      obtain ⟨kv, hkv⟩ : ∃ kv, numS b = kv := ⟨_, rfl⟩
      have hk64 := numS_lt b
      rw [hkv] at hix hk64
      have HIX := Aside0.mk hix
      have HKV := Aside0.mk hkv
      clear hb hdrop hix hlT hkv
      by_cases hneg : kv < 0
      · rw [dec_bad _ _ _ _ (by rw [HKV.out]; exact hneg)] at hd
        have hrn : r = none := by
          rw [HR.out]
          unfold decOf
          rw [← HTD.out, hd]; rfl
        subst hrn
        clear hd
        go_wp2_with (go_at_call 97; (with_reducible refine (HIX.out _).mono ?_); rintro e w' ⟨rfl, rfl⟩)
        go_ret2
        exact ⟨rfl, below_step HB0.out HB.out⟩
      · rw [dec_cons _ _ _ _ (by rw [HKV.out]; exact hneg), HKV.out] at hd
        obtain ⟨k, hkz⟩ : ∃ k : Nat, kv.toNat = k := ⟨_, rfl⟩
        rw [hkz] at hd
        have hkk : kv = (k : Int) := by omega
        obtain ⟨x2, hx2⟩ : ∃ x2 : Nat, x2 = (x * 64 + k) % 4294967296 := ⟨_, rfl⟩
        have hE : Go.bits .or .u32 ((x : Int) * 64 % 4294967296) kv = (x2 : Int) := by
          rw [hkk]
          have e1 : (x : Int) * 64 % 4294967296 = ((x * 64 % 4294967296 : Nat) : Int) := by omega
          have hc : Go.bits .or .u32 ((x * 64 % 4294967296 : Nat) : Int) ((k : Nat) : Int) = ((x * 64 % 4294967296 + k : Nat) : Int) := by
            have := bits_join .u32 32 (by decide) (fun n h0 h1 => by rw [IntKind.wrap_u32]; omega) 6 ((x * 64 % 4294967296 : Nat) : Int) (k : Int) (by omega) (by omega) (by omega) (by omega) (by omega) (by omega)
            rw [this]; omega
          rw [e1, hc, hx2]; omega
        have hE2 : Go.bits .or .u32 ((x : Int) * 64 % 4294967296) (kv % 4294967296) = (x2 : Int) := by
          rw [show kv % 4294967296 = kv by omega]; exact hE
        have hm : x2 % 4096 = (x % 4096 * 64 + k) % 4096 := by omega
        rw [← hm] at hd
        obtain ⟨cc, hcc⟩ : ∃ cc : Nat, cc = bb + 6 := ⟨_, rfl⟩
        have hc6 : IntKind.i64.wrap ((bb : Int) + 6) = (cc : Int) := by rw [IntKind.wrap_i64]; omega
        have hx2l : x2 < 4294967296 := by omega
        have HX2 := Aside0.mk hx2l
        by_cases h2 : 8 ≤ bb + 6
        · rw [if_pos h2] at hd
          have h8 : (8 : Int) ≤ (cc : Int) := by omega
          obtain ⟨dd, hdd⟩ : ∃ dd : Nat, dd = bb - 2 := ⟨_, rfl⟩
          have hc8 : IntKind.i64.wrap ((cc : Int) - 8) = (dd : Int) := by rw [IntKind.wrap_i64]; omega
          obtain ⟨y, hy⟩ : ∃ y : Nat, y = x2 / 2 ^ dd := ⟨_, rfl⟩
          have hmin : min dd 32 = dd := by omega
          have hs1 : (x2 : Int) / 2 ^ min dd 32 = (y : Int) := by rw [hmin, hy]; simp
          have hs2 : (x2 : Int) / 2 ^ dd = (y : Int) := by rw [hy]; simp
          obtain ⟨z, hz⟩ : ∃ z : UInt8, z = UInt8.ofNat (x2 % 4096 / 2 ^ dd) := ⟨_, rfl⟩
          have hyz : (y : Int) % 256 = (z.toNat : Int) := by
            have hzn : z.toNat = x2 % 4096 / 2 ^ dd % 256 := by rw [hz]; exact UInt8.toNat_ofNat'
            rw [hzn, hy]
            have : x2 / 2 ^ dd % 256 = x2 % 4096 / 2 ^ dd % 256 := by
              rcases hbb with h | h | h | h
              · omega
              · have : dd = 0 := by omega
                subst this; omega
              · have : dd = 2 := by omega
                subst this; omega
              · have : dd = 4 := by omega
                subst this; omega
            omega
          rw [← hdd, ← hz, Option.map_map] at hd
          have HD2 := Aside0.mk hd
          have HH := Aside0.mk (show 8 * (out ++ [z]).length + dd = 6 * (kk + 1) by rw [List.length_append]; simp; omega)
          have HDD := Aside0.mk (show dd = 0 ∨ dd = 2 ∨ dd = 4 ∨ dd = 6 by omega)
          have HOL := Aside0.mk (show ((ints out).length + 1) * 1 ≤ 140737488355328 by have := HTS.out; simp [ints]; omega)
          have hio : ints (out ++ [z]) = ints out ++ [(z.toNat : Int)] := by simp [ints]
          have HIO := Aside0.mk hio
          have hd0 : (0 : Int) ≤ (dd : Int) := by omega
          clear hd hm hx2 hcc hdd hy hz hbb hmin h2 hio hx2l hlen hkz hkk
          go_wp2_with (first
            | (go_at_call 97; (with_reducible refine (HIX.out _).mono ?_); rintro e w' ⟨rfl, rfl⟩)
            | ((with_reducible refine gate_builtin (b := .append) (xs := #[.tmp 33, .tmp 38]) rfl ?_); at_builtin; refine Kd.R_append (Kd.int .u8) (w0 := w1) w1.heap.size rfl (.tmp 33) (.tmp 38) 64 5 (.int .u8 0) 1 rfl Tryz.underlying64 info5 rfl (by decide) (by decide) u4 (ints out) (z.toNat : Int) [.int .u8 (z.toNat : Int)] (fun _ => True) (fun _ => False) rfl rfl ?aP (fun _ hk => hk.elim) ?aF ?aO ?aB ?aS ?aL ?_; (case aP => exact rfl); (case aB => exact HB.out); (case aF => exact (fun _ _ => trivial)); (case aO => exact HO.out); (case aS => exact below_size HB.out); (case aL => exact HOL.out); intro v103 w9 ho hb hg hat; have HO3 := Aside0.mk ho; have HB3 := Aside0.mk hb; clear ho hb hg hat))
          go_roundg (n - (kk + 1))
          case measure => omega
          case rel => exact ⟨kk + 1, x2, dd, out ++ [z], by omega, by omega, HX2.out, HDD.out, HH.out, rfl, rfl, by go_num, ⟨by rw [HIO.out]; exact HO3.out⟩, ⟨by rw [HD2.out]; congr 1; funext q; simp⟩, HB3⟩
        · rw [if_neg h2] at hd
          obtain rfl : bb = 0 := by omega
          have h8 : ¬ (8 : Int) ≤ (cc : Int) := by omega
          rw [Nat.zero_add] at hd
          have hc6' : (cc : Int) = 6 := by omega
          have HD2 := Aside0.mk hd
          have HCC := Aside0.mk hcc
          have HH := Aside0.mk (show 8 * out.length + cc = 6 * (kk + 1) by omega)
          clear hd hm hx2 hcc hbb h2 hx2l hlen hkz hkk hc6'
          go_wp2_with (first
            | (go_at_call 97; (with_reducible refine (HIX.out _).mono ?_); rintro e w' ⟨rfl, rfl⟩))
          go_roundg (n - (kk + 1))
          case measure => omega
          case rel => exact ⟨kk + 1, x2, cc, out, by omega, by omega, HX2.out, by have := HCC.out; omega, HH.out, rfl, by rw [HCC.out]; rfl, by go_num, HO, ⟨by rw [HD2.out, HCC.out]⟩, HB⟩
    · have hltz : ¬ (kk : Int) < (n : Int) := by omega
      obtain rfl : kk = n := by omega
      have hd := HD.out
      rw [List.drop_eq_nil_of_le (by rw [← Lib.size_eq, ← HN.out]; exact Nat.le_refl _)] at hd
      have hd2 : dec 0 0 T.data.toList = some out := by rw [hd]; simp [dec]
      have hrr : r = if enc out = s.data.toList then some out else none := by
        rw [HR.out]
        unfold decOf
        rw [← HTD.out, hd2]
      have hol : (enc out).length ≤ 140737488355328 := by
        have h1 := enc_len out
        have := HTS.out
        omega
      have henc := encode_calls (ba out) hol
      rw [ba_data] at henc
      obtain ⟨Av, cv, hv, hcv, hCv⟩ := Kd.R_reads HO.out
      subst hv
      have hconv := fun W (h : Below wr.heap.size wr W) => conv_row W Av cv out (Kd.C_below hCv h)
      generalize (ints out).length = m at hconv ⊢
      have HCV := Aside0.mk hconv
      have HEN := Aside0.mk henc
      have HRR := Aside0.mk hrr
      clear hd hd2 hrr hol henc hcv hCv hconv hbb hlen
      go_wp2
      rw [HCV.out _ (Below.refl _ _)]
      simp only [Result.andThen]
      rw [Oper.upon_value]
      by_cases he : enc out = s.data.toList
      · have hE : ba (enc out) = s := by rw [he]; rfl
        have hr2 := HRR.out
        rw [if_pos he] at hr2
        subst hr2
        have hen := HEN.out
        rw [hE] at hen
        have HEN2 := Aside0.mk hen
        clear hen hE he
        go_wp2_with (first
          | (go_at_call 98; (with_reducible refine (HEN2.out _).mono ?_); rintro e w3 ⟨rfl, hb3⟩; have HB3 := Aside0.mk hb3; clear hb3))
        rw [HCV.out _ HB3.out]
        simp only [Result.andThen]
        rw [Oper.upon_value]
        go_wp2
        go_ret2
        exact ⟨rfl, below_step (below_step HB0.out HB.out) HB3.out⟩
      · have hr2 := HRR.out
        rw [if_neg he] at hr2
        subst hr2
        obtain ⟨E, hE⟩ : ∃ E : ByteArray, ba (enc out) = E := ⟨_, rfl⟩
        have q1 : ¬ E.toList = s.toList := by rw [ByteArray.toList_eq, ByteArray.toList_eq, ← hE, ba_data]; exact he
        have q2 : (E.toList == s.toList) = false := by simpa using q1
        have q3 : (E.toList != s.toList) = true := by simpa using q1
        have hen := HEN.out
        rw [hE] at hen
        have HEN2 := Aside0.mk hen
        clear hen hE he
        go_wp2_with (first
          | (go_at_call 98; (with_reducible refine (HEN2.out _).mono ?_); rintro e w3 ⟨rfl, hb3⟩; have HB3 := Aside0.mk hb3; clear hb3))
        go_ret2
        exact ⟨rfl, below_step (below_step HB0.out HB.out) HB3.out⟩
theorem b64_Decode.calls (a0 : ByteArray) (r1 : ByteArray) (r2 : Bool) (w : World) (h : b64_Decode.f a0 = some (r1, r2)) :
    Calls Tryz.prog 65 #[.string a0] w fun e w' => e = .returned (.tuple #[.string r1, .bool r2]) ∧ Below w.heap.size w w' := by
  unfold b64_Decode.f at h
  split at h
  · rename_i hs
    obtain ⟨rfl, rfl⟩ := Prod.mk.inj (Option.some.inj h)
    exact decode_walk a0 hs _ rfl w
  · cases h
end Go.Proofs.YtjdhdjmdmnedfaaGreatDoor
end
