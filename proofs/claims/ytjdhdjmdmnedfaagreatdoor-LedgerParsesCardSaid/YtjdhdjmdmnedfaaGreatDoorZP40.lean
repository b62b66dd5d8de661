/- The texts RQx, LLive, LSame, LOpens in one file, without what these claims do not use (put together by prune2.py). -/
import Derived.Test.YtjdhdjmdmnedfaaGreatDoorZP38
import Derived.Test.YtjdhdjmdmnedfaaGreatDoorZP39
import Derived.Test.YtjdhdjmdmnedfaaGreatDoorZP31
import Derived.Test.YtjdhdjmdmnedfaaGreatDoorZP22
import Derived.Test.YtjdhdjmdmnedfaaGreatDoorZP4
import Derived.Deep.Slices
import Derived.ChangeArms
import Derived.WideShapes
import Derived.ChangeMaps
section
namespace Go.Proofs.YtjdhdjmdmnedfaaGreatDoor.RQ
open Go.RowKit Go.Proofs.YtjdhdjmdmnedfaaGreatDoor Go.Proofs.YtjdhdjmdmnedfaaGreatDoor.K0 Go.Proofs.YtjdhdjmdmnedfaaGreatDoor.RD Go.Proofs.YtjdhdjmdmnedfaaGreatDoor.RA Go.Proofs.YtjdhdjmdmnedfaaGreatDoor.RP Go.Proofs.YtjdhdjmdmnedfaaGreatDoorW.PrintWords Go.Proofs.YtjdhdjmdmnedfaaGreatDoorW.PrintLast Go.Proofs.YtjdhdjmdmnedfaaGreatDoorW.PrintMore
attribute [local go_sem] max2_int min2_int max_two min_two max_three min_three max_four min_four
set_option linter.unusedVariables false
set_option linter.unusedSimpArgs false
end Go.Proofs.YtjdhdjmdmnedfaaGreatDoor.RQ
end

section
namespace Go.Proofs.YtjdhdjmdmnedfaaGreatDoor
open Go Go.RowKit Go.Proofs Go.Proofs.YtjdhdjmdmnedfaaGreatDoorW.PrintWords Go.Proofs.YtjdhdjmdmnedfaaGreatDoor.K0 Go.Proofs.YtjdhdjmdmnedfaaGreatDoor.R1 Go.Proofs.YtjdhdjmdmnedfaaGreatDoor.R2 Go.Proofs.YtjdhdjmdmnedfaaGreatDoor.R3 Go.Proofs.YtjdhdjmdmnedfaaGreatDoor.R4 Go.Proofs.YtjdhdjmdmnedfaaGreatDoor.R5 Go.Proofs.YtjdhdjmdmnedfaaGreatDoor.RS
set_option linter.unusedVariables false
set_option linter.unusedSimpArgs false
/-- A hash that may be. -/
def hs : ByteArray := ⟨#[104, 49, 58, 52, 55, 68, 69, 81, 112, 106, 56, 72, 66, 83, 97, 43, 47, 84, 73, 109, 87, 43, 53, 74, 67, 101, 117, 81, 101, 82, 107, 109, 53, 78, 77, 112, 74, 87, 90, 71, 51, 104, 83, 117, 70, 85, 61]⟩
def tA : Tg := ⟨⟨#[101, 120, 47, 97]⟩, ⟨0, 1, 0, ⟨#[]⟩, ⟨#[]⟩⟩, hs⟩
def tB : Tg := ⟨⟨#[101, 120, 47, 97]⟩, ⟨0, 2, 0, ⟨#[]⟩, ⟨#[]⟩⟩, hs⟩
def tC : Tg := ⟨⟨#[101, 120, 47, 98, 47, 118, 50]⟩, ⟨2, 0, 0, ⟨#[]⟩, ⟨#[]⟩⟩, hs⟩
def tD : Tg := ⟨⟨#[101, 120, 47, 98]⟩, ⟨2, 0, 0, ⟨#[]⟩, ⟨#[]⟩⟩, hs⟩
theorem lv_ab : firstWrong [] [tA, tB] = 0 := by decide +kernel
theorem lv_ba : firstWrong [] [tB, tA] = 13 := by decide +kernel
theorem lv_c : wrongT [tA, tB] tC = 0 := by decide +kernel
theorem lv_d : wrongT [tA, tB] tD = 8 := by decide +kernel
theorem lv_lat : latT [tA, tB] tA.f0 = some tB := lat_new (l := [tA]) (t := tB) (by decide +kernel)
theorem lv_not : latT [tA, tB] tD.f0 = none := by
  have h : ¬ tA.f0 = tD.f0 := by decide +kernel
  have h2 : ¬ tB.f0 = tD.f0 := by decide +kernel
  unfold latT latFrom latFrom latFrom
  rw [if_neg h, if_neg h2]
theorem C_tags {W : World} {B : Nat} (l : List Tg) (h : W.heap[B]? = some (.cells (tcs l).toArray 32 (0, 0))) (hb : l.length ≤ 9223372036854775807) : Kd.C k32 W (some ⟨B, 0, none⟩) l.length l := by
  refine ⟨rfl, hb, fun _ => ⟨_, rfl, fun j p hp => ⟨tcl p, rfl, k32_mk W p, fun i u hu => ?_⟩⟩⟩
  have hj : (⟨B, 0, none⟩ : Addr).add (j * k32.sz + i) = ⟨B, j * 7 + i, none⟩ := by
    show (⟨B, 0, none⟩ : Addr).add (j * 7 + i) = _
    unfold Addr.add
    split
    · rename_i h; rw [h]
    · simp
  rw [hj, cell_of_heap h]
  have e := tcs_at hp
  have hi : i < 7 := by
    have := (List.getElem?_eq_some_iff.1 hu).1
    simpa [tcl] using this
  rw [← e, List.getElem?_take, if_pos hi, List.getElem?_drop] at hu
  simpa using hu
theorem below_skip {W w' : World} {o : Obj} (hb : Below (W.alloc o).heap.size (W.alloc o) w') : Below W.heap.size W w' := below_step (below_alloc (Below.refl _ _) o) hb
/-- The text of two. -/
def txt : ByteArray := ba (textB [tA, tB])
theorem txt_is : txt.data.toList = [101, 120, 47, 97, 32, 118, 48, 46, 49, 46, 48, 32, 104, 49, 58, 52, 55, 68, 69, 81, 112, 106, 56, 72, 66, 83, 97, 43, 47, 84, 73, 109, 87, 43, 53, 74, 67, 101, 117, 81, 101, 82, 107, 109, 53, 78, 77, 112, 74, 87, 90, 71, 51, 104, 83, 117, 70, 85, 61, 10, 101, 120, 47, 97, 32, 118, 48, 46, 50, 46, 48, 32, 104, 49, 58, 52, 55, 68, 69, 81, 112, 106, 56, 72, 66, 83, 97, 43, 47, 84, 73, 109, 87, 43, 53, 74, 67, 101, 117, 81, 101, 82, 107, 109, 53, 78, 77, 112, 74, 87, 90, 71, 51, 104, 83, 117, 70, 85, 61, 10] := by decide +kernel
theorem tags_res {W w' : World} {b : Nat} {v : Value} {l : List Tg} (h : Kd.R k32 32 w' b (fun _ => True) v l) : ∃ A c, v = .slice A l.length c ∧ l.length ≤ c ∧ Kd.C k32 w' A l.length l := Kd.R_reads h
theorem lv1 (W : World) (hG : GW W) : Calls Tryz.prog 10 #[.slice (some ⟨W.heap.size, 0, none⟩) 2 2] (W.alloc (.cells #[.string ⟨#[101, 120, 47, 97]⟩, .int .i64 0, .int .i64 1, .int .i64 0, .string ⟨#[]⟩, .string ⟨#[]⟩, .string ⟨#[104, 49, 58, 52, 55, 68, 69, 81, 112, 106, 56, 72, 66, 83, 97, 43, 47, 84, 73, 109, 87, 43, 53, 74, 67, 101, 117, 81, 101, 82, 107, 109, 53, 78, 77, 112, 74, 87, 90, 71, 51, 104, 83, 117, 70, 85, 61]⟩, .string ⟨#[101, 120, 47, 97]⟩, .int .i64 0, .int .i64 2, .int .i64 0, .string ⟨#[]⟩, .string ⟨#[]⟩, .string ⟨#[104, 49, 58, 52, 55, 68, 69, 81, 112, 106, 56, 72, 66, 83, 97, 43, 47, 84, 73, 109, 87, 43, 53, 74, 67, 101, 117, 81, 101, 82, 107, 109, 53, 78, 77, 112, 74, 87, 90, 71, 51, 104, 83, 117, 70, 85, 61]⟩] 32)) fun e w' => e = .returned (.tuple #[.string txt, .int .i64 0]) ∧ Below W.heap.size W w' := by
  refine (ledger_Text.calls _ _ [tA, tB] txt 0 (W.alloc (.cells #[.string ⟨#[101, 120, 47, 97]⟩, .int .i64 0, .int .i64 1, .int .i64 0, .string ⟨#[]⟩, .string ⟨#[]⟩, .string ⟨#[104, 49, 58, 52, 55, 68, 69, 81, 112, 106, 56, 72, 66, 83, 97, 43, 47, 84, 73, 109, 87, 43, 53, 74, 67, 101, 117, 81, 101, 82, 107, 109, 53, 78, 77, 112, 74, 87, 90, 71, 51, 104, 83, 117, 70, 85, 61]⟩, .string ⟨#[101, 120, 47, 97]⟩, .int .i64 0, .int .i64 2, .int .i64 0, .string ⟨#[]⟩, .string ⟨#[]⟩, .string ⟨#[104, 49, 58, 52, 55, 68, 69, 81, 112, 106, 56, 72, 66, 83, 97, 43, 47, 84, 73, 109, 87, 43, 53, 74, 67, 101, 117, 81, 101, 82, 107, 109, 53, 78, 77, 112, 74, 87, 90, 71, 51, 104, 83, 117, 70, 85, 61]⟩] 32)) (C_tags [tA, tB] (heap_alloc_new W _) (by decide)) (by decide) (hG.below (below_alloc (Below.refl _ _) _)) ?_).mono fun e w' h => ⟨h.1, below_skip h.2⟩
  unfold ledger_Text.f
  rw [if_pos (by decide), if_pos (by decide +kernel), if_pos lv_ab, if_pos (by decide +kernel)]
  rfl
theorem lvB (B : Nat) (W : World) (hB : B = W.heap.size) (hG : GW W) : Calls Tryz.prog 10 #[.slice (some ⟨B, 0, none⟩) 2 2] (W.alloc (.cells #[.string ⟨#[101, 120, 47, 97]⟩, .int .i64 0, .int .i64 1, .int .i64 0, .string ⟨#[]⟩, .string ⟨#[]⟩, .string ⟨#[104, 49, 58, 52, 55, 68, 69, 81, 112, 106, 56, 72, 66, 83, 97, 43, 47, 84, 73, 109, 87, 43, 53, 74, 67, 101, 117, 81, 101, 82, 107, 109, 53, 78, 77, 112, 74, 87, 90, 71, 51, 104, 83, 117, 70, 85, 61]⟩, .string ⟨#[101, 120, 47, 97]⟩, .int .i64 0, .int .i64 2, .int .i64 0, .string ⟨#[]⟩, .string ⟨#[]⟩, .string ⟨#[104, 49, 58, 52, 55, 68, 69, 81, 112, 106, 56, 72, 66, 83, 97, 43, 47, 84, 73, 109, 87, 43, 53, 74, 67, 101, 117, 81, 101, 82, 107, 109, 53, 78, 77, 112, 74, 87, 90, 71, 51, 104, 83, 117, 70, 85, 61]⟩] 32)) fun e w' => e = .returned (.tuple #[.string txt, .int .i64 0]) ∧ Below W.heap.size W w' := by
  subst hB; exact lv1 W hG
theorem lv2 (W : World) (hG : GW W) : Calls Tryz.prog 10 #[.slice (some ⟨W.heap.size, 0, none⟩) 2 2] (W.alloc (.cells #[.string ⟨#[101, 120, 47, 97]⟩, .int .i64 0, .int .i64 2, .int .i64 0, .string ⟨#[]⟩, .string ⟨#[]⟩, .string ⟨#[104, 49, 58, 52, 55, 68, 69, 81, 112, 106, 56, 72, 66, 83, 97, 43, 47, 84, 73, 109, 87, 43, 53, 74, 67, 101, 117, 81, 101, 82, 107, 109, 53, 78, 77, 112, 74, 87, 90, 71, 51, 104, 83, 117, 70, 85, 61]⟩, .string ⟨#[101, 120, 47, 97]⟩, .int .i64 0, .int .i64 1, .int .i64 0, .string ⟨#[]⟩, .string ⟨#[]⟩, .string ⟨#[104, 49, 58, 52, 55, 68, 69, 81, 112, 106, 56, 72, 66, 83, 97, 43, 47, 84, 73, 109, 87, 43, 53, 74, 67, 101, 117, 81, 101, 82, 107, 109, 53, 78, 77, 112, 74, 87, 90, 71, 51, 104, 83, 117, 70, 85, 61]⟩] 32)) fun e w' => e = .returned (.tuple #[.string ⟨#[]⟩, .int .i64 13]) ∧ Below W.heap.size W w' := by
  refine (ledger_Text.calls _ _ [tB, tA] ⟨#[]⟩ 13 (W.alloc (.cells #[.string ⟨#[101, 120, 47, 97]⟩, .int .i64 0, .int .i64 2, .int .i64 0, .string ⟨#[]⟩, .string ⟨#[]⟩, .string ⟨#[104, 49, 58, 52, 55, 68, 69, 81, 112, 106, 56, 72, 66, 83, 97, 43, 47, 84, 73, 109, 87, 43, 53, 74, 67, 101, 117, 81, 101, 82, 107, 109, 53, 78, 77, 112, 74, 87, 90, 71, 51, 104, 83, 117, 70, 85, 61]⟩, .string ⟨#[101, 120, 47, 97]⟩, .int .i64 0, .int .i64 1, .int .i64 0, .string ⟨#[]⟩, .string ⟨#[]⟩, .string ⟨#[104, 49, 58, 52, 55, 68, 69, 81, 112, 106, 56, 72, 66, 83, 97, 43, 47, 84, 73, 109, 87, 43, 53, 74, 67, 101, 117, 81, 101, 82, 107, 109, 53, 78, 77, 112, 74, 87, 90, 71, 51, 104, 83, 117, 70, 85, 61]⟩] 32)) (C_tags [tB, tA] (heap_alloc_new W _) (by decide)) (by decide) (hG.below (below_alloc (Below.refl _ _) _)) ?_).mono fun e w' h => ⟨h.1, below_skip h.2⟩
  unfold ledger_Text.f
  rw [if_pos (by decide), if_pos (by decide +kernel), if_neg (by rw [lv_ba]; decide), lv_ba]
theorem lv3 (W : World) (hG : GW W) : Calls Tryz.prog 6 #[.string txt] W fun e w' => ∃ A c, e = .returned (.tuple #[.slice A 2 c, .int .i64 2, .int .i64 0]) ∧ 2 ≤ c ∧ Kd.C k32 w' A 2 [tA, tB] ∧ Below W.heap.size W w' := by
  refine (ledger_Parse.calls 1000 txt [tA, tB] 2 0 W hG ?_).mono ?_
  · rw [parse_f txt (by decide +kernel) 1000 (by decide +kernel)]
    exact congrArg some (parse_text lv_ab)
  · rintro e w' ⟨v, rfl, hR, hb⟩
    obtain ⟨A, c, rfl, hc, hC⟩ := tags_res (W := W) hR
    exact ⟨A, c, rfl, hc, hC, hb⟩
def badT : List UInt8 := [101, 120, 47, 97, 32, 118, 48, 46, 49, 46, 48, 32, 104, 49, 58, 52, 55, 68, 69, 81, 112, 106, 56, 72, 66, 83, 97, 43, 47, 84, 73, 109, 87, 43, 53, 74, 67, 101, 117, 81, 101, 82, 107, 109, 53, 78, 77, 112, 74, 87, 90, 71, 51, 104, 83, 117, 70, 85, 61, 10, 101, 120, 47, 97, 32, 32, 118, 48, 46, 50, 46, 48, 32, 104, 49, 58, 52, 55, 68, 69, 81, 112, 106, 56, 72, 66, 83, 97, 43, 47, 84, 73, 109, 87, 43, 53, 74, 67, 101, 117, 81, 101, 82, 107, 109, 53, 78, 77, 112, 74, 87, 90, 71, 51, 104, 83, 117, 70, 85, 61, 10]
theorem lv_bad : parseT badT = ([], 1, 10) := by
  have h : (parseT badT).1.length = 0 ∧ (parseT badT).2 = (1, 10) := by decide +kernel
  exact Prod.ext (List.eq_nil_of_length_eq_zero h.1) h.2
theorem lv4 (s : ByteArray) (h : s.data.toList = badT) (W : World) (hG : GW W) : Calls Tryz.prog 6 #[.string s] W fun e w' => ∃ A c, e = .returned (.tuple #[.slice A 0 c, .int .i64 1, .int .i64 10]) ∧ Below W.heap.size W w' := by
  have hsz : s.size = 121 := by rw [Lib.size_eq, h]; decide +kernel
  refine (ledger_Parse.calls 1000 s [] 1 10 W hG ?_).mono ?_
  · rw [parse_f s (by omega) 1000 (by omega), h, lv_bad]
  · rintro e w' ⟨v, rfl, hR, hb⟩
    obtain ⟨A, c, rfl, hc, hC⟩ := tags_res (W := W) hR
    exact ⟨A, c, rfl, hb⟩
theorem lv4b (W : World) (hG : GW W) : Calls Tryz.prog 6 #[.string ⟨#[101, 120, 47, 97, 32, 118, 48, 46, 49, 46, 48, 32, 104, 49, 58, 52, 55, 68, 69, 81, 112, 106, 56, 72, 66, 83, 97, 43, 47, 84, 73, 109, 87, 43, 53, 74, 67, 101, 117, 81, 101, 82, 107, 109, 53, 78, 77, 112, 74, 87, 90, 71, 51, 104, 83, 117, 70, 85, 61, 10, 101, 120, 47, 97, 32, 32, 118, 48, 46, 50, 46, 48, 32, 104, 49, 58, 52, 55, 68, 69, 81, 112, 106, 56, 72, 66, 83, 97, 43, 47, 84, 73, 109, 87, 43, 53, 74, 67, 101, 117, 81, 101, 82, 107, 109, 53, 78, 77, 112, 74, 87, 90, 71, 51, 104, 83, 117, 70, 85, 61, 10]⟩] W fun e w' => ∃ A c, e = .returned (.tuple #[.slice A 0 c, .int .i64 1, .int .i64 10]) ∧ Below W.heap.size W w' := lv4 _ rfl W hG
theorem lv5 (A : Option Addr) (c : Nat) (W : World) (hG : GW W) (hc : 2 ≤ c) (hC : Kd.C k32 W A 2 [tA, tB]) : Calls Tryz.prog 12 #[.slice A 2 c, .agg #[.string ⟨#[101, 120, 47, 98, 47, 118, 50]⟩, .int .i64 2, .int .i64 0, .int .i64 0, .string ⟨#[]⟩, .string ⟨#[]⟩, .string ⟨#[104, 49, 58, 52, 55, 68, 69, 81, 112, 106, 56, 72, 66, 83, 97, 43, 47, 84, 73, 109, 87, 43, 53, 74, 67, 101, 117, 81, 101, 82, 107, 109, 53, 78, 77, 112, 74, 87, 90, 71, 51, 104, 83, 117, 70, 85, 61]⟩]] W fun e w' => ∃ A' c', e = .returned (.tuple #[.slice A' 3 c', .int .i64 0]) ∧ Below W.heap.size W w' := by
  refine (ledger_Add.calls A c [tA, tB] tC.f0 tC.f1.f0 tC.f1.f1 tC.f1.f2 tC.f1.f3 tC.f1.f4 tC.f2 [tA, tB, tC] 0 W hC hc hG ?_).mono ?_
  · rw [add_f [tA, tB] tC (by decide) (by decide +kernel)]
    unfold addT
    rw [if_pos lv_c]; rfl
  · rintro e w' ⟨v, rfl, hR, hb⟩
    obtain ⟨A', c', rfl, hc', hC'⟩ := tags_res (W := W) hR
    exact ⟨A', c', rfl, hb⟩
theorem lv6 (A : Option Addr) (c : Nat) (W : World) (hG : GW W) (hc : 2 ≤ c) (hC : Kd.C k32 W A 2 [tA, tB]) : Calls Tryz.prog 12 #[.slice A 2 c, .agg #[.string ⟨#[101, 120, 47, 98]⟩, .int .i64 2, .int .i64 0, .int .i64 0, .string ⟨#[]⟩, .string ⟨#[]⟩, .string ⟨#[104, 49, 58, 52, 55, 68, 69, 81, 112, 106, 56, 72, 66, 83, 97, 43, 47, 84, 73, 109, 87, 43, 53, 74, 67, 101, 117, 81, 101, 82, 107, 109, 53, 78, 77, 112, 74, 87, 90, 71, 51, 104, 83, 117, 70, 85, 61]⟩]] W fun e w' => ∃ A' c', e = .returned (.tuple #[.slice A' 0 c', .int .i64 8]) ∧ Below W.heap.size W w' := by
  refine (ledger_Add.calls A c [tA, tB] tD.f0 tD.f1.f0 tD.f1.f1 tD.f1.f2 tD.f1.f3 tD.f1.f4 tD.f2 [] 8 W hC hc hG ?_).mono ?_
  · rw [add_f [tA, tB] tD (by decide) (by decide +kernel)]
    unfold addT
    rw [if_neg (by rw [lv_d]; decide), lv_d]
  · rintro e w' ⟨v, rfl, hR, hb⟩
    obtain ⟨A', c', rfl, hc', hC'⟩ := tags_res (W := W) hR
    exact ⟨A', c', rfl, hb⟩
theorem lv7 (A : Option Addr) (c : Nat) (W : World) (hG : GW W) (hc : 2 ≤ c) (hC : Kd.C k32 W A 2 [tA, tB]) : Calls Tryz.prog 14 #[.slice A 2 c, .string ⟨#[101, 120, 47, 97]⟩] W fun e w' => e = .returned (.tuple #[.agg #[.string ⟨#[101, 120, 47, 97]⟩, .int .i64 0, .int .i64 2, .int .i64 0, .string ⟨#[]⟩, .string ⟨#[]⟩, .string ⟨#[104, 49, 58, 52, 55, 68, 69, 81, 112, 106, 56, 72, 66, 83, 97, 43, 47, 84, 73, 109, 87, 43, 53, 74, 67, 101, 117, 81, 101, 82, 107, 109, 53, 78, 77, 112, 74, 87, 90, 71, 51, 104, 83, 117, 70, 85, 61]⟩], .bool true]) ∧ Below W.heap.size W w' := by
  have h := latest_f [tA, tB] tA.f0 (by decide) 1000 (by decide)
  rw [lv_lat] at h
  exact ledger_Latest.calls 1000 A c [tA, tB] tA.f0 _ _ _ _ _ _ _ _ W hC hc hG h
theorem lv8 (A : Option Addr) (c : Nat) (W : World) (hG : GW W) (hc : 2 ≤ c) (hC : Kd.C k32 W A 2 [tA, tB]) : Calls Tryz.prog 14 #[.slice A 2 c, .string ⟨#[101, 120, 47, 98]⟩] W fun e w' => e = .returned (.tuple #[.agg #[.string ⟨#[]⟩, .int .i64 0, .int .i64 0, .int .i64 0, .string ⟨#[]⟩, .string ⟨#[]⟩, .string ⟨#[]⟩], .bool false]) ∧ Below W.heap.size W w' := by
  have h := latest_f [tA, tB] tD.f0 (by decide) 1000 (by decide)
  rw [lv_not] at h
  exact ledger_Latest.calls 1000 A c [tA, tB] tD.f0 _ _ _ _ _ _ _ _ W hC hc hG h
structure LMem (w W : World) : Prop where
  base : Below w.heap.size w W
  a : W.heap[w.heap.size]? = some (.cells #[.string ⟨#[101, 120, 47, 97]⟩, .int .i64 0, .int .i64 1, .int .i64 0, .string ⟨#[]⟩, .string ⟨#[]⟩, .string ⟨#[104, 49, 58, 52, 55, 68, 69, 81, 112, 106, 56, 72, 66, 83, 97, 43, 47, 84, 73, 109, 87, 43, 53, 74, 67, 101, 117, 81, 101, 82, 107, 109, 53, 78, 77, 112, 74, 87, 90, 71, 51, 104, 83, 117, 70, 85, 61]⟩] 32 (0, 0))
  b : W.heap[w.heap.size + 1]? = some (.cells #[.string ⟨#[101, 120, 47, 97]⟩, .int .i64 0, .int .i64 2, .int .i64 0, .string ⟨#[]⟩, .string ⟨#[]⟩, .string ⟨#[104, 49, 58, 52, 55, 68, 69, 81, 112, 106, 56, 72, 66, 83, 97, 43, 47, 84, 73, 109, 87, 43, 53, 74, 67, 101, 117, 81, 101, 82, 107, 109, 53, 78, 77, 112, 74, 87, 90, 71, 51, 104, 83, 117, 70, 85, 61]⟩] 32 (0, 0))
theorem LMem.below {w W W' : World} (h : LMem w W) (hb : Below W.heap.size W W') : LMem w W' := ⟨below_step h.base hb, lm_step hb h.a, lm_step hb h.b⟩
theorem lmem_new (w : World) : LMem w ((w.alloc (.cells #[.string ⟨#[101, 120, 47, 97]⟩, .int .i64 0, .int .i64 1, .int .i64 0, .string ⟨#[]⟩, .string ⟨#[]⟩, .string ⟨#[104, 49, 58, 52, 55, 68, 69, 81, 112, 106, 56, 72, 66, 83, 97, 43, 47, 84, 73, 109, 87, 43, 53, 74, 67, 101, 117, 81, 101, 82, 107, 109, 53, 78, 77, 112, 74, 87, 90, 71, 51, 104, 83, 117, 70, 85, 61]⟩] 32)).alloc (.cells #[.string ⟨#[101, 120, 47, 97]⟩, .int .i64 0, .int .i64 2, .int .i64 0, .string ⟨#[]⟩, .string ⟨#[]⟩, .string ⟨#[104, 49, 58, 52, 55, 68, 69, 81, 112, 106, 56, 72, 66, 83, 97, 43, 47, 84, 73, 109, 87, 43, 53, 74, 67, 101, 117, 81, 101, 82, 107, 109, 53, 78, 77, 112, 74, 87, 90, 71, 51, 104, 83, 117, 70, 85, 61]⟩] 32)) := by
  refine ⟨below_alloc (below_alloc (Below.refl _ _) _) _, ?_, ?_⟩
  · rw [Below.heap_alloc _ _ _ (by simp)]; exact heap_alloc_new w _
  · have : (w.alloc (.cells #[.string ⟨#[101, 120, 47, 97]⟩, .int .i64 0, .int .i64 1, .int .i64 0, .string ⟨#[]⟩, .string ⟨#[]⟩, .string ⟨#[104, 49, 58, 52, 55, 68, 69, 81, 112, 106, 56, 72, 66, 83, 97, 43, 47, 84, 73, 109, 87, 43, 53, 74, 67, 101, 117, 81, 101, 82, 107, 109, 53, 78, 77, 112, 74, 87, 90, 71, 51, 104, 83, 117, 70, 85, 61]⟩] 32)).heap.size = w.heap.size + 1 := by simp
    rw [← this]; exact heap_alloc_new _ _
abbrev cellsAre (W : World) (B : Nat) (p : ByteArray) (x y z : Int) : Prop := W.cell? ⟨B, 0, none⟩ = some (.string p) ∧ W.cell? ⟨B, 1, none⟩ = some (.int .i64 x) ∧ W.cell? ⟨B, 2, none⟩ = some (.int .i64 y) ∧ W.cell? ⟨B, 3, none⟩ = some (.int .i64 z) ∧ W.cell? ⟨B, 4, none⟩ = some (.string ⟨#[]⟩) ∧ W.cell? ⟨B, 5, none⟩ = some (.string ⟨#[]⟩) ∧ W.cell? ⟨B, 6, none⟩ = some (.string ⟨#[104, 49, 58, 52, 55, 68, 69, 81, 112, 106, 56, 72, 66, 83, 97, 43, 47, 84, 73, 109, 87, 43, 53, 74, 67, 101, 117, 81, 101, 82, 107, 109, 53, 78, 77, 112, 74, 87, 90, 71, 51, 104, 83, 117, 70, 85, 61]⟩)
theorem LMem.ca {w W : World} (h : LMem w W) : cellsAre W w.heap.size ⟨#[101, 120, 47, 97]⟩ 0 1 0 := ⟨cell_of_heap h.a 0, cell_of_heap h.a 1, cell_of_heap h.a 2, cell_of_heap h.a 3, cell_of_heap h.a 4, cell_of_heap h.a 5, cell_of_heap h.a 6⟩
theorem LMem.cb {w W : World} (h : LMem w W) : cellsAre W (w.heap.size + 1) ⟨#[101, 120, 47, 97]⟩ 0 2 0 := ⟨cell_of_heap h.b 0, cell_of_heap h.b 1, cell_of_heap h.b 2, cell_of_heap h.b 3, cell_of_heap h.b 4, cell_of_heap h.b 5, cell_of_heap h.b 6⟩
attribute [local go_sem high] eqA32
set_option maxRecDepth 100000 in
set_option maxHeartbeats 4000000 in
theorem live_walk (w : World) (hG : GW w) : Calls Tryz.prog 5 #[] w fun e w' => e = .returned (.bool true) ∧ Below w.heap.size w w' := by
  have HG := Aside0.mk hG
  clear hG
  go_enter Tryz.func5, Tryz.ntmps5
  go_wp2_with (fail)
  have hL := lmem_new w
  have hS : w.heap.size + 1 + 1 = (((w.alloc (.cells #[.string ⟨#[101, 120, 47, 97]⟩, .int .i64 0, .int .i64 1, .int .i64 0, .string ⟨#[]⟩, .string ⟨#[]⟩, .string ⟨#[104, 49, 58, 52, 55, 68, 69, 81, 112, 106, 56, 72, 66, 83, 97, 43, 47, 84, 73, 109, 87, 43, 53, 74, 67, 101, 117, 81, 101, 82, 107, 109, 53, 78, 77, 112, 74, 87, 90, 71, 51, 104, 83, 117, 70, 85, 61]⟩] 32)).alloc (.cells #[.string ⟨#[101, 120, 47, 97]⟩, .int .i64 0, .int .i64 2, .int .i64 0, .string ⟨#[]⟩, .string ⟨#[]⟩, .string ⟨#[104, 49, 58, 52, 55, 68, 69, 81, 112, 106, 56, 72, 66, 83, 97, 43, 47, 84, 73, 109, 87, 43, 53, 74, 67, 101, 117, 81, 101, 82, 107, 109, 53, 78, 77, 112, 74, 87, 90, 71, 51, 104, 83, 117, 70, 85, 61]⟩] 32))).heap.size := by simp
  generalize ((w.alloc (.cells #[.string ⟨#[101, 120, 47, 97]⟩, .int .i64 0, .int .i64 1, .int .i64 0, .string ⟨#[]⟩, .string ⟨#[]⟩, .string ⟨#[104, 49, 58, 52, 55, 68, 69, 81, 112, 106, 56, 72, 66, 83, 97, 43, 47, 84, 73, 109, 87, 43, 53, 74, 67, 101, 117, 81, 101, 82, 107, 109, 53, 78, 77, 112, 74, 87, 90, 71, 51, 104, 83, 117, 70, 85, 61]⟩] 32)).alloc (.cells #[.string ⟨#[101, 120, 47, 97]⟩, .int .i64 0, .int .i64 2, .int .i64 0, .string ⟨#[]⟩, .string ⟨#[]⟩, .string ⟨#[104, 49, 58, 52, 55, 68, 69, 81, 112, 106, 56, 72, 66, 83, 97, 43, 47, 84, 73, 109, 87, 43, 53, 74, 67, 101, 117, 81, 101, 82, 107, 109, 53, 78, 77, 112, 74, 87, 90, 71, 51, 104, 83, 117, 70, 85, 61]⟩] 32)) = W at hL hS ⊢
  have HL0 := Aside0.mk hL
  have HG0 := Aside0.mk (HG.out.below hL.base)
  have HS := Aside0.mk hS
  clear hL hS
  go_wp2_with (first
    | (go_at_call 10; (with_reducible refine (lvB _ _ HS.out HG0.out).mono ?_); rintro e w1 ⟨rfl, hb⟩; have HL1 := Aside0.mk (HL0.out.below hb); have HG1 := Aside0.mk (HG.out.below HL1.out.base); clear hb)
    | (go_at_call 6; (with_reducible refine (lv3 _ HG1.out).mono ?_); rintro e w2 ⟨A2, c2, rfl, hc2, hC2, hb⟩; have HL2 := Aside0.mk (HL1.out.below hb); have HC2 := Aside0.mk hC2; have HK2 := Aside0.mk hc2; have HG2 := Aside0.mk (HG.out.below HL2.out.base); clear hb hC2 hc2; obtain ⟨a0, a1, a2, a3, a4, a5, a6⟩ := HL2.out.ca; obtain ⟨b0, b1, b2, b3, b4, b5, b6⟩ := HL2.out.cb)
    | (go_at_call 10; (with_reducible refine (lv2 _ HG2.out).mono ?_); rintro e w3 ⟨rfl, hb⟩; have HL3 := Aside0.mk (HL2.out.below hb); have HC3 := Aside0.mk (Kd.C_below HC2.out hb); have HG3 := Aside0.mk (HG.out.below HL3.out.base); clear hb; clear a0 a1 a2 a3 a4 a5 a6 b0 b1 b2 b3 b4 b5 b6; skip)
    | (go_at_call 6; (with_reducible refine (lv4b _ HG3.out).mono ?_); rintro e w4 ⟨A4, c4, rfl, hb⟩; have HL4 := Aside0.mk (HL3.out.below hb); have HC4 := Aside0.mk (Kd.C_below HC3.out hb); have HG4 := Aside0.mk (HG.out.below HL4.out.base); clear hb)
    | (go_at_call 12; (with_reducible refine (lv5 _ _ _ HG4.out HK2.out HC4.out).mono ?_); rintro e w5 ⟨A5, c5, rfl, hb⟩; have HL5 := Aside0.mk (HL4.out.below hb); have HC5 := Aside0.mk (Kd.C_below HC4.out hb); have HG5 := Aside0.mk (HG.out.below HL5.out.base); clear hb)
    | (go_at_call 12; (with_reducible refine (lv6 _ _ _ HG5.out HK2.out HC5.out).mono ?_); rintro e w6 ⟨A6, c6, rfl, hb⟩; have HL6 := Aside0.mk (HL5.out.below hb); have HC6 := Aside0.mk (Kd.C_below HC5.out hb); have HG6 := Aside0.mk (HG.out.below HL6.out.base); clear hb)
    | (go_at_call 14; (with_reducible refine (lv7 _ _ _ HG6.out HK2.out HC6.out).mono ?_); rintro e w7 ⟨rfl, hb⟩; have HL7 := Aside0.mk (HL6.out.below hb); have HC7 := Aside0.mk (Kd.C_below HC6.out hb); have HG7 := Aside0.mk (HG.out.below HL7.out.base); clear hb))
  have hT : (w7.alloc (.cells #[.string ⟨#[101, 120, 47, 97]⟩, .int .i64 0, .int .i64 2, .int .i64 0, .string ⟨#[]⟩, .string ⟨#[]⟩, .string ⟨#[104, 49, 58, 52, 55, 68, 69, 81, 112, 106, 56, 72, 66, 83, 97, 43, 47, 84, 73, 109, 87, 43, 53, 74, 67, 101, 117, 81, 101, 82, 107, 109, 53, 78, 77, 112, 74, 87, 90, 71, 51, 104, 83, 117, 70, 85, 61]⟩] 32)).heap[w7.heap.size]? = some (.cells #[.string ⟨#[101, 120, 47, 97]⟩, .int .i64 0, .int .i64 2, .int .i64 0, .string ⟨#[]⟩, .string ⟨#[]⟩, .string ⟨#[104, 49, 58, 52, 55, 68, 69, 81, 112, 106, 56, 72, 66, 83, 97, 43, 47, 84, 73, 109, 87, 43, 53, 74, 67, 101, 117, 81, 101, 82, 107, 109, 53, 78, 77, 112, 74, 87, 90, 71, 51, 104, 83, 117, 70, 85, 61]⟩] 32 (0, 0)) := heap_alloc_new _ _
  have hL8 := HL7.out.below (below_alloc (Below.refl _ _) (.cells #[.string ⟨#[101, 120, 47, 97]⟩, .int .i64 0, .int .i64 2, .int .i64 0, .string ⟨#[]⟩, .string ⟨#[]⟩, .string ⟨#[104, 49, 58, 52, 55, 68, 69, 81, 112, 106, 56, 72, 66, 83, 97, 43, 47, 84, 73, 109, 87, 43, 53, 74, 67, 101, 117, 81, 101, 82, 107, 109, 53, 78, 77, 112, 74, 87, 90, 71, 51, 104, 83, 117, 70, 85, 61]⟩] 32))
  have hC8 := Kd.C_below HC7.out (below_alloc (Below.refl _ _) (.cells #[.string ⟨#[101, 120, 47, 97]⟩, .int .i64 0, .int .i64 2, .int .i64 0, .string ⟨#[]⟩, .string ⟨#[]⟩, .string ⟨#[104, 49, 58, 52, 55, 68, 69, 81, 112, 106, 56, 72, 66, 83, 97, 43, 47, 84, 73, 109, 87, 43, 53, 74, 67, 101, 117, 81, 101, 82, 107, 109, 53, 78, 77, 112, 74, 87, 90, 71, 51, 104, 83, 117, 70, 85, 61]⟩] 32))
  generalize (w7.alloc (.cells #[.string ⟨#[101, 120, 47, 97]⟩, .int .i64 0, .int .i64 2, .int .i64 0, .string ⟨#[]⟩, .string ⟨#[]⟩, .string ⟨#[104, 49, 58, 52, 55, 68, 69, 81, 112, 106, 56, 72, 66, 83, 97, 43, 47, 84, 73, 109, 87, 43, 53, 74, 67, 101, 117, 81, 101, 82, 107, 109, 53, 78, 77, 112, 74, 87, 90, 71, 51, 104, 83, 117, 70, 85, 61]⟩] 32)) = W8 at hT hL8 hC8 ⊢
  generalize w7.heap.size = T at hT ⊢
  have HT := Aside0.mk hT
  have HL8 := Aside0.mk hL8
  have HC8 := Aside0.mk hC8
  have HG8 := Aside0.mk (HG.out.below hL8.base)
  have hTlt : T < W8.heap.size := (Array.getElem?_eq_some_iff.1 hT).1
  have HTL := Aside0.mk hTlt
  clear hT hL8 hC8 hTlt
  have q2 : txt.toList = [101, 120, 47, 97, 32, 118, 48, 46, 49, 46, 48, 32, 104, 49, 58, 52, 55, 68, 69, 81, 112, 106, 56, 72, 66, 83, 97, 43, 47, 84, 73, 109, 87, 43, 53, 74, 67, 101, 117, 81, 101, 82, 107, 109, 53, 78, 77, 112, 74, 87, 90, 71, 51, 104, 83, 117, 70, 85, 61, 10, 101, 120, 47, 97, 32, 118, 48, 46, 50, 46, 48, 32, 104, 49, 58, 52, 55, 68, 69, 81, 112, 106, 56, 72, 66, 83, 97, 43, 47, 84, 73, 109, 87, 43, 53, 74, 67, 101, 117, 81, 101, 82, 107, 109, 53, 78, 77, 112, 74, 87, 90, 71, 51, 104, 83, 117, 70, 85, 61, 10] := by rw [ByteArray.toList_eq]; exact txt_is
  have q1 : (txt.toList == [101, 120, 47, 97, 32, 118, 48, 46, 49, 46, 48, 32, 104, 49, 58, 52, 55, 68, 69, 81, 112, 106, 56, 72, 66, 83, 97, 43, 47, 84, 73, 109, 87, 43, 53, 74, 67, 101, 117, 81, 101, 82, 107, 109, 53, 78, 77, 112, 74, 87, 90, 71, 51, 104, 83, 117, 70, 85, 61, 10, 101, 120, 47, 97, 32, 118, 48, 46, 50, 46, 48, 32, 104, 49, 58, 52, 55, 68, 69, 81, 112, 106, 56, 72, 66, 83, 97, 43, 47, 84, 73, 109, 87, 43, 53, 74, 67, 101, 117, 81, 101, 82, 107, 109, 53, 78, 77, 112, 74, 87, 90, 71, 51, 104, 83, 117, 70, 85, 61, 10]) = true := by rw [q2]; decide
  go_wp2_with (first
    | (go_at_call 14; (with_reducible refine (lv8 _ _ _ HG8.out HK2.out HC8.out).mono ?_); rintro e w9 ⟨rfl, hb⟩; have HL9 := Aside0.mk ((HL8.out.below hb).below (below_alloc (Below.refl _ _) (.cells #[.string ⟨#[]⟩, .int .i64 0, .int .i64 0, .int .i64 0, .string ⟨#[]⟩, .string ⟨#[]⟩, .string ⟨#[]⟩] 32))); have HT9 := Aside0.mk (lm_step (below_alloc (Below.refl _ _) (.cells #[.string ⟨#[]⟩, .int .i64 0, .int .i64 0, .int .i64 0, .string ⟨#[]⟩, .string ⟨#[]⟩, .string ⟨#[]⟩] 32)) (lm_step hb HT.out)); clear hb; obtain ⟨b0, b1, b2, b3, b4, b5, b6⟩ := HL9.out.cb; have t0 := cell_of_heap HT9.out 0; have t1 := cell_of_heap HT9.out 1; have t2 := cell_of_heap HT9.out 2; have t3 := cell_of_heap HT9.out 3; have t4 := cell_of_heap HT9.out 4; have t5 := cell_of_heap HT9.out 5; have t6 := cell_of_heap HT9.out 6))
  go_ret
  exact ⟨rfl, HL9.out.base⟩
def armadalaw15_live.f : Option Bool := some true
theorem armadalaw15_live.calls (r : Bool) (w : World) (hG : GW w) (hT : r = true) (h : armadalaw15_live.f = some r) : Calls Tryz.prog 5 #[] w fun e w' => e = .returned (.bool r) ∧ Below w.heap.size w w' := by
  subst hT
  exact live_walk w hG
end Go.Proofs.YtjdhdjmdmnedfaaGreatDoor
end

section
namespace Go.Proofs.YtjdhdjmdmnedfaaGreatDoor
open Go Go.RowKit Go.Proofs Go.Proofs.YtjdhdjmdmnedfaaGreatDoorW.PrintWords Go.Proofs.YtjdhdjmdmnedfaaGreatDoor.K0 Go.Proofs.YtjdhdjmdmnedfaaGreatDoor.R1 Go.Proofs.YtjdhdjmdmnedfaaGreatDoor.R2 Go.Proofs.YtjdhdjmdmnedfaaGreatDoor.R3 Go.Proofs.YtjdhdjmdmnedfaaGreatDoor.R4 Go.Proofs.YtjdhdjmdmnedfaaGreatDoor.R5 Go.Proofs.YtjdhdjmdmnedfaaGreatDoor.RS
set_option linter.unusedVariables false
set_option linter.unusedSimpArgs false
theorem same_l0 (l : List Tg) (hl : l.length ≤ 4294967280) : ∀ (d n k : Nat), l.length - n = d → n ≤ l.length → d < k → armadaref15_Same.l0 k l l (n : Int) = some true := by
  intro d
  induction d with
  | zero =>
    intro n k hd hn hk
    obtain ⟨k, rfl⟩ : ∃ m, k = m + 1 := ⟨k - 1, by omega⟩
    simp only [armadaref15_Same.l0]
    rw [if_neg (by omega)]
  | succ d ih =>
    intro n k hd hn hk
    obtain ⟨k, rfl⟩ : ∃ m, k = m + 1 := ⟨k - 1, by omega⟩
    simp only [armadaref15_Same.l0]
    rw [if_pos (by omega), if_pos (by omega), if_pos (by omega), wrap_succ (by omega), ih (n + 1) k (by omega) (by omega) (by omega)]
    simp
theorem same_self (l : List Tg) (hl : l.length ≤ 4294967280) (k : Nat) (hk : l.length < k) : armadaref15_Same.f k l l = some true := by
  unfold armadaref15_Same.f
  rw [if_pos rfl]
  exact same_l0 l hl _ 0 k rfl (by omega) (by omega)
end Go.Proofs.YtjdhdjmdmnedfaaGreatDoor
end

section
namespace Go.Proofs.YtjdhdjmdmnedfaaGreatDoor
open Go Go.RowKit Go.Deep Go.WideShapes Go.Proofs.YtjdhdjmdmnedfaaGreatDoorW.PrintWords Go.Proofs.YtjdhdjmdmnedfaaGreatDoor.K0
set_option linter.unusedVariables false
section
variable {H : Type} (enc : TypeId × Value → H) (P : Program) (w : World) (base : Nat) (spare : Nat → Bool) (held : Bool)
variable {enc P w base spare held}
end
section
variable {H : Type} {enc : TypeId × Value → H} {w : World} {base : Nat} {spare : Nat → Bool} {held : Bool}
instance : Inhabited S32 := ⟨z32⟩
end
end Go.Proofs.YtjdhdjmdmnedfaaGreatDoor
end
