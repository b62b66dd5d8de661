/- The texts MnLns in one file, without what these claims do not use (put together by prune2.py). -/
import Derived.Test.YtmbpefnhkimplaaGreatDoorZE15
import Derived.Test.YtmbpefnhkimplaaGreatDoorZE16
section
namespace Go.Proofs.YtmbpefnhkimplaaGreatDoor
open Go Go.RowKit Go.Sort Go.Maps Go.Proofs Go.Proofs.YtmbpefnhkimplaaGreatDoorW.PrintWords Go.Proofs.YtmbpefnhkimplaaGreatDoorW.PrintLast Go.Proofs.YtmbpefnhkimplaaGreatDoor.K0 Go.Proofs.YtmbpefnhkimplaaGreatDoor.R3
set_option linter.unusedVariables false
set_option linter.unusedSimpArgs false
abbrev Ln := S142
def lnF (p : List Wd × ByteArray) : Ln := ⟨p.1, p.2⟩
/-- The lines of texts, as far as they may be. -/
def lnsW (l : List ByteArray) : List Ln := l.filterMap fun s => (oneW s).map lnF
def rowsW (s : ByteArray) : List ByteArray := (linesOf s.data.toList).map ba
theorem splitC_len (c : UInt8) (l : List UInt8) : (splitC c l).length ≤ l.length + 1 := by
  rw [splitC_length]; have := List.count_le_length (a := c) (l := l); omega
theorem rowsW_len (s : ByteArray) : (rowsW s).length ≤ s.size + 1 := by
  unfold rowsW linesOf
  rw [Lib.size_eq, List.length_map]
  have := splitC_len 10 s.data.toList
  split
  · rw [List.length_dropLast]; omega
  · exact this
theorem rowsW_size {s x : ByteArray} (h : x ∈ rowsW s) : x.size ≤ s.size := by
  unfold rowsW at h
  obtain ⟨p, hp, rfl⟩ := List.mem_map.1 h
  have hm : p ∈ splitC 10 s.data.toList := by
    unfold linesOf at hp
    split at hp
    · exact List.dropLast_subset _ hp
    · exact hp
  rw [ba_size, Lib.size_eq]
  exact (splitC_parts hm).2
theorem lnsW_len (l : List ByteArray) : (lnsW l).length ≤ l.length := List.length_filterMap_le _ _
theorem lnsW_take {l : List ByteArray} {k : Nat} {s : ByteArray} {p : List Wd × ByteArray} (h : l[k]? = some s) (ho : oneW s = some p) : lnsW (l.take (k + 1)) = lnsW (l.take k) ++ [lnF p] := by
  unfold lnsW
  rw [List.take_add_one, h, List.filterMap_append]
  simp [ho]
theorem lnsW_full : ∀ {l : List ByteArray}, (∀ x ∈ l, oneW x ≠ none) → (lnsW l).length = l.length
  | [], _ => rfl
  | x :: l, h => by
    have ih := lnsW_full (l := l) fun y hy => h y (List.mem_cons_of_mem _ hy)
    obtain ⟨p, hp⟩ := Option.ne_none_iff_exists'.1 (h x List.mem_cons_self)
    unfold lnsW at ih ⊢
    rw [List.filterMap_cons, hp]
    simp [ih]
/-- What Lines tells. -/
def LinesIs (N : Nat) (l : List ByteArray) (e : Ending) (w : World) : Prop :=
  (∃ va, (∀ (k : Nat) x, l[k]? = some x → oneW x ≠ none) ∧ e = .returned (.tuple #[va, .int .i64 l.length, .int .i64 0]) ∧ Kd.R k142 142 w N (fun k => N ≤ k) va (lnsW l)) ∨
  (∃ (k : Nat) (x : ByteArray), l[k]? = some x ∧ oneW x = none ∧ (∀ (j : Nat) y, j < k → l[j]? = some y → oneW y ≠ none) ∧ e = .returned (.tuple #[.slice none 0 0, .int .i64 k, .int .i64 9]))
/-- A line has been read and stored: what is at hand ahead of its append. -/
theorem lines_step {W0 wr W2 W3 : World} {va va2 : Value} {al : List Ln} {p : List Wd × ByteArray} {z : Array Value} (HB : Below W0.heap.size W0 wr) (HO : Kd.R k142 142 wr W0.heap.size (fun k => W0.heap.size ≤ k) va al) (h2 : Below wr.heap.size wr W2) (hp : Kd.R k159 159 W2 wr.heap.size (fun k => wr.heap.size ≤ k) va2 p.1) (hg : (W2.alloc (.cells z 142)).grownBy W3 (some W2.heap.size)) :
    Below W0.heap.size W0 W3 ∧ Kd.R k142 142 W3 W0.heap.size (fun k => W0.heap.size ≤ k) va al ∧ k142.M W3 W0.heap.size (fun k => wr.heap.size ≤ k) (lnF p) [va2, .string p.2] ∧ (∀ k, W3.heap.size ≤ k → W0.heap.size ≤ k) := by
  have s1 := HB.size
  have s2 := h2.size
  have b2 : Below W0.heap.size W0 (W2.alloc (.cells z 142)) := below_alloc (below_step HB h2) _
  have b3 : Below W0.heap.size W0 W3 := b2.grown hg b2.size (fun k hk => by cases hk; omega)
  refine ⟨b3, ?_, ?_, fun k hk => Nat.le_trans b3.size hk⟩
  · have h := Kd.R_below (Kd.R_bound HO) (below_step h2 (below_alloc (Below.refl _ _) (.cells z 142)))
    exact Kd.R_mono (Kd.R_grown h hg (fun k hk e => by cases e; have := hk.2.2.1; omega)) (fun k hk => hk.1)
  · have h := Kd.R_below (Kd.R_bound hp) (below_alloc (Below.refl _ _) (.cells z 142))
    exact k142_mkM _ _ _ (lnF p) (Kd.R_lower (Kd.R_mono (Kd.R_grown h hg (fun k hk e => by cases e; have := hk.2.2.1; omega)) (fun k hk => hk.1)) s1)
set_option maxRecDepth 100000 in
set_option maxHeartbeats 4000000 in
theorem lines_calls (s : ByteArray) (hs : s.size ≤ 400000) (w : World) (hG : GW w) : Calls Tryz.prog 76 #[.string s] w fun e w' => Below w.heap.size w w' ∧ LinesIs w.heap.size (rowsW s) e w' := by
  have HSP := Aside0.mk (lex_Split.calls s (rowsW s) w hG (lex_f s (by omega)))
  have HSZ := Aside0.mk (fun x (h : x ∈ rowsW s) => Nat.le_trans (rowsW_size h) hs)
  have hln := rowsW_len s
  generalize rowsW s = l at HSP HSZ hln ⊢
  obtain ⟨n, hn⟩ : ∃ n, n = l.length := ⟨_, rfl⟩
  rw [← hn] at hln
  have hbig : n ≤ 400001 := by omega
  have HN := Aside0.mk hn
  clear hn hln hG
  go_enter Tryz.func76, Tryz.ntmps76
  go_wp2_with (first | (go_at_call 41; with_reducible refine HSP.out.mono ?_; rintro e W0 ⟨v0, rfl, ho, hb⟩; obtain ⟨A0, c0, rfl⟩ := Kd.R_slice ho; have HL := Aside0.mk (Kd.R_reads' ho).2.2; have HB0 := Aside0.mk hb; rw [← HN.out] at HL ⊢; clear ho hb) | fail)
  go_loopg [5, 13] n (fun gg s5 s13 wr => ∃ (kk : Nat), kk ≤ n ∧ n - kk ≤ gg ∧ s13 = .int .i64 kk ∧ Aside0 (∀ (j : Nat) y, j < kk → l[j]? = some y → oneW y ≠ none) ∧ Aside0 (Below W0.heap.size W0 wr) ∧ Aside0 (Kd.R k142 142 wr W0.heap.size (fun k => W0.heap.size ≤ k) s5 (lnsW (l.take kk))))
  case atStart => exact ⟨0, Nat.zero_le _, by omega, rfl, ⟨fun j y hj => absurd hj (Nat.not_lt_zero j)⟩, ⟨Below.refl _ _⟩, ⟨Kd.R_nil _ _ _ _ _⟩⟩
  case round =>
    obtain ⟨kk, hkk, hg, rfl, HA, HB, HO⟩ := hrel
    have hal := lnsW_len (l.take kk)
    rw [List.length_take] at hal
    obtain ⟨A5, c5, rfl⟩ := Kd.R_slice HO.out
    by_cases hlt : kk < n
    · have hltz : (kk : Int) < (n : Int) := by omega
      obtain ⟨x, hx⟩ : ∃ x, l[kk]? = some x := ⟨_, List.getElem?_eq_getElem (by have := HN.out; omega)⟩
      have hx9 := HSZ.out x (List.mem_of_getElem? hx)
      obtain ⟨ad, hA, g0⟩ := Kd.at_string (Kd.C_below HL.out HB.out) (kk : Int) (by omega) (by omega)
      subst hA
      rw [show rdOf ByteArray.empty l (kk : Int) = x by unfold rdOf; rw [Int.toNat_natCast, List.getD_eq_getElem?_getD, hx]; rfl, Int.toNat_natCast] at g0
      cases ho : oneW x with
      | none =>
        clear hal
        go_wp2_with (first | (go_at_call 98; with_reducible refine (one_calls x hx9 _).mono ?_; rintro e W2 ⟨hb, h1⟩; unfold OneIs at h1; rw [ho] at h1; obtain rfl := h1; have HB2 := Aside0.mk hb; clear hb) | ((with_reducible refine gate_ (.store 142 (.tmp 8) (.tmp 21)) rfl ?_); refine store_ev 142 (.tmp 8) (.tmp 21) rfl rfl rfl 0 [.slice none 0 0, .string ⟨#[]⟩] (heap_alloc_new W2 _) rfl rfl rfl (by kernel_rfl) (show 0 + 2 ≤ 2 by decide) (by simp [Value.oneCell']) rfl ?_; intro W3 hn hg; have HG3 := Aside0.mk hg; clear hn hg))
        go_ret3
        refine ⟨?_, .inr ⟨kk, x, hx, ho, HA.out, rfl⟩⟩
        have b1 := below_step HB0.out HB.out
        have b2 := below_alloc (below_step b1 HB2.out) (.cells #[.slice none 0 0, .string ⟨#[]⟩] 142)
        exact b2.grown HG3.out b2.size (fun k hk => by cases hk; have := b1.size; have := HB2.out.size; omega)
      | some p =>
        have HT := Aside0.mk (lnsW_take hx ho)
        have HA2 : Aside0 (∀ (j : Nat) y, j < kk + 1 → l[j]? = some y → oneW y ≠ none) := ⟨fun j y hj hy => (Nat.lt_or_ge j kk).elim (fun h => HA.out j y h hy) (fun h => by
          obtain rfl : j = kk := by omega
          rw [hx] at hy
          obtain rfl := Option.some.inj hy
          rw [ho]; exact Option.some_ne_none _)⟩
        obtain ⟨al, hale⟩ : ∃ al, al = lnsW (l.take kk) := ⟨_, rfl⟩
        rw [← hale] at HO HT hal
        obtain ⟨m, hm⟩ : ∃ m, m = al.length := ⟨_, rfl⟩
        rw [← hale, ← hm]
        rw [← hm] at HO hal
        have HAL : Aside0 ((al.length + 1) * 40 ≤ 140737488355328) := ⟨by rw [← hm]; omega⟩
        have HOKP : Aside0 (∀ k, wr.heap.size ≤ k → W0.heap.size ≤ k ∧ some k ≠ (Value.slice A5 m c5).ownBlock) := ⟨fun k hk => ⟨Nat.le_trans HB.out.size hk, fun e => by have := ((Kd.R_bound HO.out).1 k e.symm).2.2.1; omega⟩⟩
        clear hale hm hal hx
        go_wp2_with (first | (go_at_call 98; with_reducible refine (one_calls x hx9 _).mono ?_; rintro e W2 ⟨hb, h1⟩; unfold OneIs at h1; rw [ho] at h1; obtain ⟨va2, rfl, hp2⟩ := h1; have HB2 := Aside0.mk hb; have HP2 := Aside0.mk hp2; clear hb hp2) | ((with_reducible refine gate_ (.store 142 (.tmp 8) (.tmp 21)) rfl ?_); refine store_ev 142 (.tmp 8) (.tmp 21) rfl rfl rfl 0 [va2, .string p.2] (heap_alloc_new W2 _) rfl rfl rfl (by kernel_rfl) (show 0 + 2 ≤ 2 by decide) (by obtain ⟨A9, c9, h9⟩ := Kd.R_slice HP2.out; rw [h9]; simp [Value.oneCell']) rfl ?_; intro W3 hn hg; obtain ⟨f1, f2, f3, f4⟩ := lines_step HB.out HO.out HB2.out HP2.out hg; have HC3 := Aside0.mk hn; have HB3 := Aside0.mk f1; have HO3 := Aside0.mk f2; have HPM := Aside0.mk f3; have HFR := Aside0.mk f4; clear hn hg f1 f2 f3 f4) | ((with_reducible refine gate_ (.load 142 (.tmp 8)) rfl ?_); refine load_ev rfl rfl rfl HC3.out Tryz.underlying142 rfl (by kernel_rfl) ?_) | ((with_reducible refine gate_builtin (b := .append) (xs := #[.tmp 27, .tmp 29]) rfl ?_); at_builtin; refine Kd.R_append k142 (W := W3) (w0 := W0) W0.heap.size rfl (.tmp 27) (.tmp 29) 132 142 _ 40 rfl Tryz.underlying132 info142 rfl (by decide) (by decide) (.slice A5 m c5) al (lnF p) [va2, .string p.2] (fun k => W0.heap.size ≤ k) (fun k => wr.heap.size ≤ k) rfl rfl HPM.out HOKP.out ?aF HO3.out HB3.out ?aS ?aL ?_; (case aF => exact HFR.out); (case aS => exact HB3.out.size); (case aL => exact HAL.out); intro v103 w9 ho hb hg hat; have HO9 := Aside0.mk ho; have HB9 := Aside0.mk hb; clear ho hb hg hat))
        go_roundg (n - (kk + 1))
        case measure => omega
        case rel => exact ⟨kk + 1, by omega, by omega, by go_num, HA2, HB9, ⟨by rw [HT.out]; exact HO9.out⟩⟩
    · have hltz : ¬ (kk : Int) < (n : Int) := by omega
      obtain rfl : kk = n := by omega
      have hE : l.take kk = l := List.take_of_length_le (by have := HN.out; omega)
      rw [hE] at HO ⊢
      have HAA : ∀ (k : Nat) x, l[k]? = some x → oneW x ≠ none := fun k x h => HA.out k x (by have := (List.getElem?_eq_some_iff.1 h).1; have := HN.out; omega) h
      have HF := Aside0.mk (lnsW_full (l := l) (fun x hx => by obtain ⟨k, hk⟩ := List.getElem?_of_mem hx; exact HAA k x hk))
      have HQ := Aside0.mk HAA
      clear HAA hal hE
      go_wp2
      go_ret3
      exact ⟨below_step HB0.out HB.out, .inl ⟨_, HQ.out, by rw [← HF.out]; rfl, Kd.R_lower (Kd.R_mono HO.out (fun k hk => Nat.le_trans HB0.out.size hk)) HB0.out.size⟩⟩
end Go.Proofs.YtmbpefnhkimplaaGreatDoor
end
