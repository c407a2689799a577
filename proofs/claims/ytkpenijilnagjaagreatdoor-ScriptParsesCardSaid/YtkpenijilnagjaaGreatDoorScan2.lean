/- The scanner's methods, each by its contract: block, text. -/
import Derived.Test.YtkpenijilnagjaaGreatDoorScan
namespace Go.Proofs.YtkpenijilnagjaaGreatDoor
open Go.RowKit

set_option maxRecDepth 100000 in
set_option maxHeartbeats 400000 in
theorem block_ok (b : Nat) (s r : List UInt8) (i : Off.Bid) (w : World) (hE : Env w) (hb : Scan b s w) (h10 : 10 ≤ b) (hs : s.length < 4294967281)
    (hn : Off.block s = .some (i, r)) :
    Calls Tryz.prog 157 #[.pointer (some ⟨b, 0, none⟩)] w fun e w' =>
      e = .returned (idV i) ∧ Scan b r w' ∧ Keeps (At1 b) w w' := by
  have hl := upto_le 32 s
  have hlt := hb.lt
  have hb0 := hb.no ((Keeps.refl No w).alloc (.cells #[.int .i64 0, .int .i64 0] 34)) id
  have hr : Off.readId (Off.upto 32 s) = some i ∧ Off.behind 32 s = r := by
    unfold Off.block Off.word at hn
    simp only at hn
    cases h : Off.readId (Off.upto 32 s) with
    | none => rw [h] at hn; cases hn
    | some j => rw [h] at hn; simp at hn; exact ⟨by rw [hn.1], hn.2⟩
  clear hn
  obtain ⟨hr, rfl⟩ := hr
  have hin : Off.I64 i.R ∧ Off.I64 i.N := readId_in hr
  have cr := readId_any (Off.upto 32 s)
  rw [hr] at cr
  clear hr
  obtain ⟨R, N⟩ := i
  simp only [Option.getD_some, Option.isSome_some, idV] at cr
  go_enter Tryz.func157, Tryz.ntmps157
  go_wp2_with (go_at_call 106; refine (word_any b s _ (hE.alloc _) hb0 hs).mono ?_; rintro e w1 ⟨rfl, hb1, k1⟩)
  have hE1 : Env w1 := (hE.alloc _).keeps k1 fun k e => by unfold At1 at e; omega
  have b1 := k1.own (show ¬ At1 b w.heap.size by unfold At1; omega)
  go_wp2_with (first
    | (go_at_call 185; refine (cr _ hE1 (by omega)).mono ?_; rintro e w2 ⟨rfl, k2⟩
       have b2 := k2.heap b1 id
       have c2 := Lib.cell_of_heap b2
       have f2 := Lib.frozen_of_heap b2
       have hlt2 := heap_lt b2)
    | (go_at_call 109; refine (need_ok _).mono ?_; rintro e w4 ⟨rfl, rfl⟩))
  have b4 := heap_alloc_keep (heap_set (heap_set b2 0 (.int .i64 R)) 1 (.int .i64 N)) (.cells #[.int .i64 R, .int .i64 N] 34)
  have c4 := Lib.cell_of_heap b4
  refine bodyPost_ret (v := .agg #[.int .i64 R, .int .i64 N]) (by simp [results, Tryz.results157, go_sem, c4]) rfl ⟨rfl, ?_, ?_⟩
  · exact (((hb1.no k2 id).other (by omega) _).other (by omega) _).alloc _
  · exact (((((Keeps.refl _ _).alloc _).trans k1).no k2 |>.setNew (Nat.le_refl _) _).setNew (Nat.le_refl _) _).alloc _

set_option maxRecDepth 100000 in
set_option maxHeartbeats 400000 in
theorem block_bad (b : Nat) (s : List UInt8) (w : World) (hE : Env w) (hb : Scan b s w) (h10 : 10 ≤ b) (hs : s.length < 4294967281)
    (hn : Off.block s = .none) :
    Calls Tryz.prog 157 #[.pointer (some ⟨b, 0, none⟩)] w fun e w' =>
      e = .panicked wrongChain ∧ Keeps (At1 b) w w' := by
  have hl := upto_le 32 s
  have hlt := hb.lt
  have hb0 := hb.no ((Keeps.refl No w).alloc (.cells #[.int .i64 0, .int .i64 0] 34)) id
  have hr : Off.readId (Off.upto 32 s) = none := by
    unfold Off.block Off.word at hn
    simp only at hn
    cases h : Off.readId (Off.upto 32 s) with
    | none => rfl
    | some j => rw [h] at hn; cases hn
  clear hn
  have cr := readId_any (Off.upto 32 s)
  rw [hr] at cr
  clear hr
  simp only [Option.getD_none, Option.isSome_none, idV, Off.Bid.z] at cr
  go_enter Tryz.func157, Tryz.ntmps157
  go_wp2_with (go_at_call 106; refine (word_any b s _ (hE.alloc _) hb0 hs).mono ?_; rintro e w1 ⟨rfl, hb1, k1⟩)
  have hE1 : Env w1 := (hE.alloc _).keeps k1 fun k e => by unfold At1 at e; omega
  have b1 := k1.own (show ¬ At1 b w.heap.size by unfold At1; omega)
  go_wp2_with (first
    | (go_at_call 185; refine (cr _ hE1 (by omega)).mono ?_; rintro e w2 ⟨rfl, k2⟩
       have b2 := k2.heap b1 id
       have c2 := Lib.cell_of_heap b2
       have f2 := Lib.frozen_of_heap b2
       have hlt2 := heap_lt b2)
    | (go_at_call 109; refine (need_bad _).mono ?_; rintro e w4 ⟨rfl, rfl⟩))
  exact ⟨rfl, rfl, (((Keeps.refl _ _).alloc _).trans k1).no k2 |>.alloc _⟩

end Go.Proofs.YtkpenijilnagjaaGreatDoor
