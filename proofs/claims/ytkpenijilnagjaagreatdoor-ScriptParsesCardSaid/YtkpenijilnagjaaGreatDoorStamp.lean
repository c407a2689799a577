/- The names of the layer stamp: RightOp, RightBlock, Show, op, Read, each by its contract. -/
import Derived.Test.YtkpenijilnagjaaGreatDoorLib
import Derived.Lib.ItoaLen
namespace Go.Proofs.YtkpenijilnagjaaGreatDoor
open Go.RowKit

theorem ret_bool {a b : Bool} (h : a = b) : Ending.returned (.bool a) = .returned (.bool b) := by rw [h]
theorem ret_str {a b : List UInt8} (h : a = b) : Ending.returned (.string ⟨a.toArray⟩) = .returned (.string ⟨b.toArray⟩) := by rw [h]

/-- a name as a value -/
@[reducible] def idV (i : Off.Bid) : Value := .agg #[.int .i64 i.R, .int .i64 i.N]

set_option maxHeartbeats 400000 in
theorem rightOp_any (R N : Int) (w : World) :
    Calls Tryz.prog 83 #[.agg #[.int .i64 R, .int .i64 N]] w fun e w' =>
      e = .returned (.bool (Off.rightOp ⟨R, N⟩)) ∧ Keeps No w w' := by
  by_cases h : 0 ≤ R ∧ R < 16 ∧ 1 ≤ N ∧ N ≤ 1048576
  · obtain ⟨h0, h1, h2, h3⟩ := h
    have H : Hid (Off.rightOp ⟨R, N⟩ = true) := Off.rightOp_iff.2 ⟨h0, h1, h2, h3⟩
    go_enter Tryz.func83, Tryz.ntmps83
    go_wp2
    go_ret
    exact ⟨ret_bool H.out.symm, (Keeps.refl _ _).alloc _⟩
  · have H : Hid (Off.rightOp ⟨R, N⟩ = false) := by
      have : ¬ Off.rightOp ⟨R, N⟩ = true := fun e => h (Off.rightOp_iff.1 e)
      exact Bool.eq_false_iff.2 this
    go_enter Tryz.func83, Tryz.ntmps83
    go_wp2
    all_goals
      go_ret
      refine ⟨ret_bool ?_, (Keeps.refl _ _).alloc _⟩
      rw [H.out]
      try (simp; omega)

theorem id_ne {R N a b : Int} (h : ¬ (R = a ∧ N = b)) : (⟨R, N⟩ : Off.Bid) ≠ ⟨a, b⟩ := fun e => h (by injection e with h1 h2; exact ⟨h1, h2⟩)

set_option maxHeartbeats 400000 in
theorem rightBlock_any (R N : Int) (w : World) (hE : Env w) :
    Calls Tryz.prog 94 #[.agg #[.int .i64 R, .int .i64 N]] w fun e w' =>
      e = .returned (.bool (Off.rightBlock ⟨R, N⟩)) ∧ Keeps No w w' := by
  have r0 := hE.root0
  have r1 := hE.root1
  have t0 := hE.trash0
  have t1 := hE.trash1
  have hz0 : 0 < w.heap.size := by have := hE.size; omega
  have hz1 : 1 < w.heap.size := by have := hE.size; omega
  go_enter Tryz.func94, Tryz.ntmps94
  go_wp2_with (go_at_call 83; refine (rightOp_any _ _ _).mono ?_; rintro e w1 ⟨rfl, k1⟩)
  all_goals
    go_ret
    refine ⟨ret_bool ?_, (by repeat (first | exact Keeps.refl _ _ | assumption | refine Keeps.alloc ?_ _ | refine Keeps.drewN ?_ _ | refine Keeps.drew ?_ | refine Keeps.set1 ?_ _ | refine Keeps.no ?_ (by assumption) | refine Keeps.any ?_))⟩
    simp [Off.rightBlock, Off.Bid.z, Off.Bid.t, *]

theorem itoa_len (n : Int) (h : Off.I64 n) : (Lib.itoa n).length ≤ 21 := Lib.itoa_length_le n h.1 h.2

theorem bytes_app (a b : Array UInt8) : (ByteArray.mk a ++ ByteArray.mk b) = ByteArray.mk (a ++ b) := by
  apply ByteArray.ext
  simp

theorem dotted (a b : List UInt8) : ByteArray.mk a.toArray ++ ByteArray.mk #[46] ++ ByteArray.mk b.toArray = ByteArray.mk (a ++ 46 :: b).toArray := by
  rw [bytes_app, bytes_app]
  congr 1
  apply Array.ext'
  simp

set_option maxRecDepth 100000 in
set_option maxHeartbeats 400000 in
theorem showId_any (R N : Int) (w : World) (hE : Env w) (h1 : Off.I64 R) (h2 : Off.I64 N) :
    Calls Tryz.prog 162 #[.agg #[.int .i64 R, .int .i64 N]] w fun e w' =>
      e = .returned (.string ⟨(Off.showId ⟨R, N⟩).toArray⟩) ∧ Keeps No w w' := by
  have r0 := hE.root0
  have r1 := hE.root1
  have t0 := hE.trash0
  have t1 := hE.trash1
  have hz0 : 0 < w.heap.size := by have := hE.size; omega
  have hz1 : 1 < w.heap.size := by have := hE.size; omega
  have cI : ∀ w1, Env w1 → ∀ n, Off.I64 n → ∀ d os, Calls Tryz.prog 117 #[.int .i64 n] (Sort.grow (redrawn w1 d) os) fun e w'' => e = .returned (.string ⟨(Lib.itoa n).toArray⟩) ∧ ∃ p : Regrown, w'' = Sort.grow (redrawn w1 p.d) p.os :=
    fun w1 hE1 n hn d os => calls_regrown (lib_itoa n _ (hE1.regrown d os) hn)
  have l1 := itoa_len R h1
  have l2 := itoa_len N h2
  have m1 : ¬ 9223372036854775807 < (Lib.itoa R).length + 1 := by omega
  have m2 : ¬ 9223372036854775807 < (Lib.itoa R).length + 1 + (Lib.itoa N).length := by omega
  have e0 : R = 0 ∨ ¬ R = 0 := Classical.em _
  have e1 : R = 1 ∨ ¬ R = 1 := Classical.em _
  have e2 : N = 0 ∨ ¬ N = 0 := Classical.em _
  rcases e0 with rfl | e0 <;> rcases e1 with e1 | e1 <;> rcases e2 with rfl | e2 <;> (try subst e1) <;> (try contradiction)
  all_goals
    go_enter Tryz.func162, Tryz.ntmps162
    go_wp2_with (go_at_call 83; refine (rightOp_any _ _ _).mono ?_; rintro e w1 ⟨rfl, k1⟩)
  all_goals first
    | (go_ret
       refine ⟨ret_str ?_, (by repeat (first | exact Keeps.refl _ _ | assumption | refine Keeps.alloc ?_ _ | refine Keeps.drewN ?_ _ | refine Keeps.drew ?_ | refine Keeps.set1 ?_ _ | refine Keeps.no ?_ (by assumption) | refine Keeps.any ?_))⟩
       simp_all [Off.showId, Off.Bid.z, Off.Bid.t, Off.sRoot, Off.sTrash]
       done)
    | skip
  all_goals
    have c0 : w1.cell? ⟨w.heap.size, 0, none⟩ = _ := (k1.cell (by simp) id).trans (by simp; rfl)
    have c1 : w1.cell? ⟨w.heap.size, 1, none⟩ = _ := (k1.cell (by simp) id).trans (by simp; rfl)
    have d0 := cell_regrown c0
    have d1 := cell_regrown c1
    have hE1 : Env w1 := (hE.alloc _).no k1
    refine wp_region_quiet_below (by kernel_rfl) (by kernel_rfl) ?_
    repeat (quiet_step (exact cI w1 hE1 _ (by assumption) _ _))
    refine wpQuiet_nil ?_
    intro _ hw'
    obtain ⟨⟨dq, osq⟩, hw''⟩ := hw'
    subst hw''
    go_wp2
    go_ret
    refine ⟨?_, (((Keeps.refl _ _).alloc _).no k1).no (keeps_regrown w1 dq osq)⟩
    rw [dotted]
    refine ret_str ?_
    simp_all [Off.showId, Off.Bid.z, Off.Bid.t]

theorem upto_le (c : UInt8) : ∀ s : List UInt8, (Off.upto c s).length ≤ s.length
  | [] => Nat.le_refl _
  | b :: l => by
    unfold Off.upto
    split
    · simp
    · have := upto_le c l; simp; omega
theorem behind_le (c : UInt8) : ∀ s : List UInt8, (Off.behind c s).length ≤ s.length
  | [] => Nat.le_refl _
  | b :: l => by
    unfold Off.behind
    split
    · simp
    · have := behind_le c l; simp; omega

theorem opOf_in (s : List UInt8) : Off.I64 (Off.opOf s).R ∧ Off.I64 (Off.opOf s).N := by
  have hz : Off.I64 0 := ⟨by decide, by decide⟩
  have ha : ∀ l n, Off.atoiV l = some n → Off.I64 n := by
    intro l n h
    unfold Off.atoiV at h
    split at h
    · rename_i v hv; cases h; exact Lib.atoiAll_bounds hv
    · cases h
  unfold Off.opOf
  split
  · exact ⟨hz, hz⟩
  · rename_i r hr
    split
    · exact ⟨hz, hz⟩
    · rename_i n hn
      exact ⟨ha _ _ hr, ha _ _ hn⟩

end Go.Proofs.YtkpenijilnagjaaGreatDoor
