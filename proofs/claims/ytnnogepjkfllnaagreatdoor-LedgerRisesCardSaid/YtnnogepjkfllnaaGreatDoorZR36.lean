/- The texts LPl, RSx0, RSx1, RSx2, RSx in one file, without what this claim does not use (put together by prune.py). -/
import Derived.Test.YtnnogepjkfllnaaGreatDoorZR35
import Derived.Test.YtnnogepjkfllnaaGreatDoorZR6
import Derived.Test.YtnnogepjkfllnaaGreatDoorZR7
import Derived.Test.YtnnogepjkfllnaaGreatDoorZR5
section
namespace Go.Proofs.YtnnogepjkfllnaaGreatDoor
open Go Go.RowKit Go.Proofs Go.Proofs.YtnnogepjkfllnaaGreatDoorW.PrintWords Go.Proofs.YtnnogepjkfllnaaGreatDoor.K0 Go.Proofs.YtnnogepjkfllnaaGreatDoor.R1 Go.Proofs.YtnnogepjkfllnaaGreatDoor.R2 Go.Proofs.YtnnogepjkfllnaaGreatDoor.R3 Go.Proofs.YtnnogepjkfllnaaGreatDoor.R4 Go.Proofs.YtnnogepjkfllnaaGreatDoor.R5
set_option linter.unusedVariables false
set_option linter.unusedSimpArgs false
theorem toList_nil (s : ByteArray) : s.toList = [] ↔ s.data.toList = [] := by rw [ByteArray.toList_eq]
theorem toList_eq_iff (a b : ByteArray) : a.toList = b.toList ↔ a = b := ⟨fun h => by_data (by rw [← ByteArray.toList_eq, ← ByteArray.toList_eq]; exact h), fun h => by rw [h]⟩
theorem trim_nl (l : List UInt8) : Lib.trimSuffix (l ++ [10]) [10] = l := by
  unfold Lib.trimSuffix Lib.hasSuffix
  rw [if_pos (by simp [List.isSuffixOf])]
  simp
theorem trim_nl_no {l : List UInt8} (h : ¬ ∃ a, l = a ++ [10]) : Lib.trimSuffix l [10] = l := by
  unfold Lib.trimSuffix Lib.hasSuffix
  rw [if_neg]
  intro hs
  obtain ⟨a, ha⟩ := List.isSuffixOf_iff_suffix.1 hs
  exact h ⟨a, ha.symm⟩
theorem lex_f (s : ByteArray) (hs : s.size ≤ 4294967280) : lex_Split.f s = some ((linesOf s.data.toList).map ba) := by
  unfold lex_Split.f
  by_cases h : s.data.toList = []
  · rw [if_pos ((toList_nil s).2 h), h, lines_nil]; rfl
  · rw [if_neg (fun e => h ((toList_nil s).1 e))]
    unfold strings_TrimSuffix.f strings_Split.f
    rw [if_pos (by omega)]
    simp only [Option.bind_some]
    have h10 : (⟨#[10]⟩ : ByteArray).size = 1 := rfl
    by_cases h2 : ∃ a, s.data.toList = a ++ [10]
    · obtain ⟨a, ha⟩ := h2
      have hsz : a.length + 1 = s.size := by rw [Lib.size_eq, ha, List.length_append]; rfl
      rw [ha, trim_nl, lines_snoc, if_pos (by show a.toArray.size < _; simp; omega), if_pos h10]
      rfl
    · rw [trim_nl_no h2, lines_other h h2, if_pos (by show s.data.toList.toArray.size < _; rw [List.size_toArray, ← Lib.size_eq]; omega), if_pos h10]
      rfl
def tz : Tg := ⟨⟨#[]⟩, ⟨0, 0, 0, ⟨#[]⟩, ⟨#[]⟩⟩, ⟨#[]⟩⟩
def flatT (b : Option Tg) : ByteArray × Int × Int × Int × ByteArray × ByteArray × ByteArray × Bool := ((b.getD tz).f0, (b.getD tz).f1.f0, (b.getD tz).f1.f1, (b.getD tz).f1.f2, (b.getD tz).f1.f3, (b.getD tz).f1.f4, (b.getD tz).f2, b.isSome)
theorem rd_three (x y z : ByteArray) : rdOf ByteArray.empty [x, y, z] 0 = x ∧ rdOf ByteArray.empty [x, y, z] 1 = y ∧ rdOf ByteArray.empty [x, y, z] 2 = z := ⟨rfl, rfl, rfl⟩
theorem read_f (x : ByteArray) (hs : x.size ≤ 4294967280) : (∃ t, readT x.data.toList = some t ∧ ledger_read.f x = some (flatT (some t))) ∨ (readT x.data.toList = none ∧ ∃ a b c d e f g, ledger_read.f x = some (a, b, c, d, e, f, g, false)) := by
  have hsp : strings_Split.f x ⟨#[32]⟩ = some ((splitC 32 x.data.toList).map ba) := by
    unfold strings_Split.f
    rw [if_pos (by omega), if_pos (show (⟨#[32]⟩ : ByteArray).size = 1 from rfl)]; rfl
  unfold ledger_read.f readT
  rw [hsp]
  simp only [Option.bind_some, List.length_map]
  by_cases h3 : (splitC 32 x.data.toList).length = 3
  · obtain ⟨p, v, h, hl⟩ := three h3
    have hv : v.length ≤ x.size := by
      have := (splitC_parts (c := 32) (l := x.data.toList) (p := v) (by rw [hl]; simp)).2
      rw [Lib.size_eq]; exact this
    rw [if_pos (by omega), if_pos (by omega), hl]
    simp only [List.map_cons, List.map_nil]
    obtain ⟨r0, r1, r2⟩ := rd_three (ba p) (ba v) (ba h)
    rw [r0, r1, r2]
    by_cases hp : p = []
    · subst hp
      rw [if_pos ((toList_nil _).2 rfl)]
      exact .inr ⟨by simp, _, _, _, _, _, _, _, rfl⟩
    · rw [if_neg (fun e => hp ((toList_nil _).1 e)), if_pos (show (2 : Int) < (([p, v, h].length : Nat) : Int) by simp)]
      by_cases hh : h = []
      · subst hh
        rw [if_pos ((toList_nil _).2 rfl)]
        refine .inr ⟨?_, _, _, _, _, _, _, _, rfl⟩
        simp [hp]
      · rw [if_neg (fun e => hh ((toList_nil _).1 e)), if_pos (show (1 : Int) < (([p, v, h].length : Nat) : Int) by simp)]
        have hpf : ver_Parse.f (ba v) = some (parsed v) := by
          unfold ver_Parse.f
          rw [if_pos (by rw [ba_size]; omega)]; rfl
        rw [hpf]
        simp only [Option.bind_some]
        rw [if_neg hp, if_neg hh]
        unfold parsed
        cases hv : parseV v with
        | none => exact .inr ⟨rfl, _, _, _, _, _, _, _, rfl⟩
        | some r => exact .inl ⟨_, rfl, rfl⟩
  · rw [if_neg (by omega)]
    refine .inr ⟨?_, _, _, _, _, _, _, _, rfl⟩
    split
    · rename_i e; rw [e] at h3; exact absurd rfl h3
    · rfl
theorem parse_l0 (ls : List ByteArray) (B : Nat) (hB : B ≤ 4294967280) (hl : ls.length ≤ 4294967280) (hx : ∀ x ∈ ls, x.size ≤ B) : ∀ (d n k : Nat) (acc : List Tg), ls.length - n = d → n ≤ ls.length → acc.length = n → d < k →
    ledger_Parse.l0 k acc ls (ls.length : Int) (n : Int) = some (parseFrom acc ((ls.drop n).map fun x => x.data.toList)) := by
  intro d
  induction d with
  | zero =>
    intro n k acc hd hn ha hk
    obtain ⟨k, rfl⟩ : ∃ m, k = m + 1 := ⟨k - 1, by omega⟩
    simp only [ledger_Parse.l0]
    rw [if_neg (by omega), List.drop_eq_nil_of_le (by omega)]; rfl
  | succ d ih =>
    intro n k acc hd hn ha hk
    obtain ⟨k, rfl⟩ : ∃ m, k = m + 1 := ⟨k - 1, by omega⟩
    obtain ⟨x, h1, h2, h3⟩ := rd_at (l := ls) (n := n) (by omega)
    have hm : x ∈ ls := List.mem_of_getElem? h3
    have hxs := hx x hm
    simp only [ledger_Parse.l0]
    rw [if_pos (by omega), if_pos (by omega), if_pos (by omega), h1, h2, List.map_cons]
    rcases read_f x (by omega) with ⟨t, ht, hf⟩ | ⟨ht, a, b, c, dd, e, f, g, hf⟩
    · rw [hf]
      have hh : t.f2.size ≤ 140737488355328 := by
        have hxl := readT_some ht
        have : t.f2.data.toList.length ≤ x.data.toList.length := by
          rw [hxl]; unfold lineT; simp only [List.length_append, List.length_cons]; omega
        rw [← Lib.size_eq, ← Lib.size_eq] at this
        omega
      have hw : ledger_wrong.f acc t.f0 t.f1.f0 t.f1.f1 t.f1.f2 t.f1.f3 t.f1.f4 t.f2 = some (wrongT acc t) := by
        unfold ledger_wrong.f
        rw [if_pos hh, tag_eta]
      simp only [Option.bind_some, flatT, Option.getD_some, Option.isSome_some, if_true, hw]
      unfold parseFrom
      rw [ht]
      simp only
      by_cases hz : wrongT acc t = 0
      · rw [if_pos hz, if_pos hz, if_pos (by omega), wrap_succ (by omega), tag_eta, ih (n + 1) k (acc ++ [t]) (by omega) (by omega) (by rw [List.length_append]; simp; omega) (by omega)]
      · rw [if_neg hz, if_neg hz, ha]
    · rw [hf]
      simp only [Option.bind_some]
      unfold parseFrom
      rw [ht, if_neg (by simp), ha]
theorem map_ba (l : List (List UInt8)) : (l.map ba).map (fun x => x.data.toList) = l := by
  rw [List.map_map]; exact List.map_id _
theorem linesOf_len (l : List UInt8) : (linesOf l).length ≤ l.length + 1 ∧ ∀ x ∈ linesOf l, x.length ≤ l.length := by
  have h1 := splitC_length 10 l
  have h2 := List.count_le_length (a := (10 : UInt8)) (l := l)
  unfold linesOf
  split
  · refine ⟨by rw [List.length_dropLast]; omega, fun x hx => (splitC_parts (List.dropLast_subset _ hx)).2⟩
  · exact ⟨by omega, fun x hx => (splitC_parts hx).2⟩
theorem parse_f (s : ByteArray) (hs : s.size ≤ 4294967270) (k : Nat) (hk : s.size + 1 < k) : ledger_Parse.f k s = some (parseT s.data.toList) := by
  have hl := linesOf_len s.data.toList
  rw [← Lib.size_eq] at hl
  unfold ledger_Parse.f parseT
  rw [lex_f s (by omega)]
  simp only [Option.bind_some]
  have := parse_l0 ((linesOf s.data.toList).map ba) s.size (by omega) (by rw [List.length_map]; omega) (fun x hx => by
    obtain ⟨y, hy, rfl⟩ := List.mem_map.1 hx
    rw [ba_size]
    exact hl.2 y hy) _ 0 k [] rfl (by omega) rfl (by rw [List.length_map]; omega)
  rw [List.drop_zero, map_ba] at this
  exact this
/-- A tag behind all, or why not. -/
def addT (l : List Tg) (t : Tg) : List Tg × Int := if wrongT l t = 0 then (l ++ [t], 0) else ([], wrongT l t)
theorem add_f (l : List Tg) (t : Tg) (hl : l.length ≤ 4294967280) (hh : t.f2.size ≤ 140737488355328) : ledger_Add.f l t.f0 t.f1.f0 t.f1.f1 t.f1.f2 t.f1.f3 t.f1.f4 t.f2 = some (addT l t) := by
  have hw : ledger_wrong.f l t.f0 t.f1.f0 t.f1.f1 t.f1.f2 t.f1.f3 t.f1.f4 t.f2 = some (wrongT l t) := by
    unfold ledger_wrong.f
    rw [if_pos hh, tag_eta]
  unfold ledger_Add.f addT slices_Clone.f
  rw [hw, if_pos (show l.length * 88 ≤ 140737488355328 by omega)]
  simp only [Option.bind_some, tag_eta]
  by_cases hz : wrongT l t = 0
  · rw [if_pos hz, if_pos hz, if_pos (by simp; omega)]
  · rw [if_neg hz, if_neg hz]
theorem rdT_at {l : List Tg} {n : Nat} (h : n < l.length) : ∃ x, rd_T32 l (n : Int) = x ∧ l.drop n = x :: l.drop (n + 1) ∧ l[n]? = some x := by
  refine ⟨l[n], ?_, List.drop_eq_getElem_cons h, List.getElem?_eq_getElem h⟩
  unfold rd_T32
  rw [Int.toNat_natCast, List.getD_eq_getElem?_getD, List.getElem?_eq_getElem h]; rfl
theorem latest_l0 (l : List Tg) (p : ByteArray) (hl : l.length ≤ 4294967280) : ∀ (d n k : Nat) (b : Option Tg), l.length - n = d → n ≤ l.length → d + 102 < k →
    ledger_Latest.l0 k p b.isSome l (l.length : Int) (n : Int) (b.getD tz).f0 (b.getD tz).f1.f0 (b.getD tz).f1.f1 (b.getD tz).f1.f2 (b.getD tz).f1.f3 (b.getD tz).f1.f4 (b.getD tz).f2 = some (flatT (latFrom p b (l.drop n))) := by
  intro d
  induction d with
  | zero =>
    intro n k b hd hn hk
    obtain ⟨k, rfl⟩ : ∃ m, k = m + 1 := ⟨k - 1, by omega⟩
    simp only [ledger_Latest.l0]
    rw [if_neg (by omega), List.drop_eq_nil_of_le (by omega)]; rfl
  | succ d ih =>
    intro n k b hd hn hk
    obtain ⟨k, rfl⟩ : ∃ m, k = m + 1 := ⟨k - 1, by omega⟩
    obtain ⟨x, h1, h2, h3⟩ := rdT_at (l := l) (n := n) (by omega)
    have ihx := ih (n + 1) k (some x) (by omega) (by omega) (by omega)
    have ihb := ih (n + 1) k b (by omega) (by omega) (by omega)
    simp only [ledger_Latest.l0]
    rw [if_pos (by omega), if_pos (by omega), if_pos (by omega), h1, wrap_succ (by omega), h2]
    unfold latFrom
    by_cases hp : x.f0 = p
    · rw [if_pos ((toList_eq_iff _ _).2 hp), if_pos hp]
      cases b with
      | none =>
        rw [if_neg (by simp)]
        exact ihx
      | some y =>
        rw [if_pos (by rfl), compare_f _ _ _ _ _ _ _ _ _ _ k (by omega)]
        simp only [Option.bind_some, Option.getD_some]
        show (if tcmp x y > 0 then _ else _) = _
        by_cases hc : 0 < tcmp x y
        · rw [if_pos hc, if_pos hc]
          exact ihx
        · rw [if_neg hc, if_neg hc]
          exact ihb
    · rw [if_neg (fun e => hp ((toList_eq_iff _ _).1 e)), if_neg hp]
      exact ihb
theorem latest_f (l : List Tg) (p : ByteArray) (hl : l.length ≤ 4294967280) (k : Nat) (hk : l.length + 102 < k) : ledger_Latest.f k l p = some (flatT (latT l p)) := by
  have := latest_l0 l p hl _ 0 k none rfl (by omega) (by omega)
  rw [List.drop_zero] at this
  exact this
end Go.Proofs.YtnnogepjkfllnaaGreatDoor
end

section
namespace Go.Proofs.YtnnogepjkfllnaaGreatDoor.RS
open Go.RowKit Go.Proofs.YtnnogepjkfllnaaGreatDoor Go.Proofs.YtnnogepjkfllnaaGreatDoor.K0 Go.Proofs.YtnnogepjkfllnaaGreatDoorW.PrintWords Go.Proofs.YtnnogepjkfllnaaGreatDoorW.PrintLast Go.Proofs.YtnnogepjkfllnaaGreatDoorW.PrintMore
attribute [local go_sem] max2_int min2_int max_two min_two max_three min_three max_four min_four
set_option linter.unusedVariables false
set_option linter.unusedSimpArgs false
end Go.Proofs.YtnnogepjkfllnaaGreatDoor.RS
end

section
namespace Go.Proofs.YtnnogepjkfllnaaGreatDoor.RS
open Go.RowKit Go.Proofs.YtnnogepjkfllnaaGreatDoor Go.Proofs.YtnnogepjkfllnaaGreatDoor.K0 Go.Proofs.YtnnogepjkfllnaaGreatDoorW.PrintWords Go.Proofs.YtnnogepjkfllnaaGreatDoorW.PrintLast Go.Proofs.YtnnogepjkfllnaaGreatDoorW.PrintMore
attribute [local go_sem] max2_int min2_int max_two min_two max_three min_three max_four min_four
set_option linter.unusedVariables false
set_option linter.unusedSimpArgs false
theorem eqA30 (d : Nat) (w : World) (x0 y0 : Int) (x1 y1 : Int) (x2 y2 : Int) (x3 y3 : ByteArray) (x4 y4 : ByteArray) :
  (Op.equalIn (d + 2) 30 (.agg #[.int .i64 x0, .int .i64 x1, .int .i64 x2, .string x3, .string x4]) (.agg #[.int .i64 y0, .int .i64 y1, .int .i64 y2, .string y3, .string y4])).run Tryz.prog w = .ok (x0 == y0 && (x1 == y1 && (x2 == y2 && (x3.toList == y3.toList && (x4.toList == y4.toList))))) w := by
 refine eqA_of Tryz.underlying30 (by kernel_rfl) ?_
 refine eqf_cons (by rfl) (by go_simp; rfl) (by go_simp; rfl) (by go_simp) ?_
 refine eqf_cons (by rfl) (by go_simp; rfl) (by go_simp; rfl) (by go_simp) ?_
 refine eqf_cons (by rfl) (by go_simp; rfl) (by go_simp; rfl) (by go_simp) ?_
 refine eqf_cons (by rfl) (by go_simp; rfl) (by go_simp; rfl) (by go_simp) ?_
 exact eqf_last (by rfl) (by go_simp; rfl) (by go_simp; rfl) (by go_simp)
theorem eqA32 (d : Nat) (w : World) (x0 y0 : ByteArray) (x1 y1 : Int) (x2 y2 : Int) (x3 y3 : Int) (x4 y4 : ByteArray) (x5 y5 : ByteArray) (x6 y6 : ByteArray) :
  (Op.equalIn (d + 3) 32 (.agg #[.string x0, .int .i64 x1, .int .i64 x2, .int .i64 x3, .string x4, .string x5, .string x6]) (.agg #[.string y0, .int .i64 y1, .int .i64 y2, .int .i64 y3, .string y4, .string y5, .string y6])).run Tryz.prog w = .ok (x0.toList == y0.toList && ((x1 == y1 && (x2 == y2 && (x3 == y3 && (x4.toList == y4.toList && (x5.toList == y5.toList))))) && (x6.toList == y6.toList))) w := by
 refine eqA_of Tryz.underlying32 (by kernel_rfl) ?_
 refine eqf_cons (by rfl) (by go_simp; rfl) (by go_simp; rfl) (by go_simp) ?_
 refine eqf_cons (by rfl) (by go_simp) (by go_simp) (eqA30 (d + 0) w _ _ _ _ _ _ _ _ _ _) ?_
 exact eqf_last (by rfl) (by go_simp; rfl) (by go_simp; rfl) (by go_simp)
end Go.Proofs.YtnnogepjkfllnaaGreatDoor.RS
end

section
namespace Go.Proofs.YtnnogepjkfllnaaGreatDoor.RS
open Go.RowKit Go.Proofs.YtnnogepjkfllnaaGreatDoor Go.Proofs.YtnnogepjkfllnaaGreatDoor.K0 Go.Proofs.YtnnogepjkfllnaaGreatDoorW.PrintWords Go.Proofs.YtnnogepjkfllnaaGreatDoorW.PrintLast Go.Proofs.YtnnogepjkfllnaaGreatDoorW.PrintMore
attribute [local go_sem] max2_int min2_int max_two min_two max_three min_three max_four min_four
set_option linter.unusedVariables false
set_option linter.unusedSimpArgs false
attribute [local go_sem high] eqA32
end Go.Proofs.YtnnogepjkfllnaaGreatDoor.RS
end

section
namespace Go.Proofs.YtnnogepjkfllnaaGreatDoor.RS
open Go.RowKit Go.Proofs.YtnnogepjkfllnaaGreatDoor Go.Proofs.YtnnogepjkfllnaaGreatDoor.K0 Go.Proofs.YtnnogepjkfllnaaGreatDoorW.PrintWords Go.Proofs.YtnnogepjkfllnaaGreatDoorW.PrintLast Go.Proofs.YtnnogepjkfllnaaGreatDoorW.PrintMore
attribute [local go_sem] max2_int min2_int max_two min_two max_three min_three max_four min_four
set_option linter.unusedVariables false
set_option linter.unusedSimpArgs false
end Go.Proofs.YtnnogepjkfllnaaGreatDoor.RS
end
