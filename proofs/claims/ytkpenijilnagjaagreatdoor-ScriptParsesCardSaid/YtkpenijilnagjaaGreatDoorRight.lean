/- Whether an event's command can be written. -/
import Derived.Test.YtkpenijilnagjaaGreatDoorEvBase
namespace Go.Proofs.YtkpenijilnagjaaGreatDoor
open Go.RowKit

set_option maxRecDepth 100000 in
set_option maxHeartbeats 2000000 in
theorem right_any (c : Off.Ev) (w : World) (hE : Env w) :
    Calls Tryz.prog 78 #[evV c] w fun e w' => e = .returned (.bool (Off.rightEv c)) ∧ Keeps No w w' := by
  obtain ⟨kd, en, eto, ek, ef, ⟨ck, ⟨R, N⟩, p, n, t, f, ⟨R2, N2⟩⟩⟩ := c
  by_cases h1 : kd = 1
  · have cb := rightBlock_any R N
    have co := rightBlock_any R2 N2
    cases hb : Off.rightBlock ⟨R, N⟩ <;> cases ho : Off.rightBlock ⟨R2, N2⟩
    all_goals
      rw [hb] at cb
      rw [ho] at co
      have Hb := Lib.hid hb
      have Ho := Lib.hid ho
      have hx : (kd != 1) = false := by rw [h1]; rfl
      have H1 := Lib.hid h1
      clear hb ho h1
      have cc := two_boxes w (.cells #[.int .i64 kd, .int .i64 en, .int .i64 eto, .int .i64 ek, .bool ef, .int .i64 ck, .int .i64 R, .int .i64 N, .int .i64 p, .int .i64 n, .string ⟨t.toArray⟩, .bool f, .int .i64 R2, .int .i64 N2] 79)
        (.cells #[.int .i64 ck, .int .i64 R, .int .i64 N, .int .i64 p, .int .i64 n, .string ⟨t.toArray⟩, .bool f, .int .i64 R2, .int .i64 N2] 77)
      have hE2 := (hE.alloc (.cells #[.int .i64 kd, .int .i64 en, .int .i64 eto, .int .i64 ek, .bool ef, .int .i64 ck, .int .i64 R, .int .i64 N, .int .i64 p, .int .i64 n, .string ⟨t.toArray⟩, .bool f, .int .i64 R2, .int .i64 N2] 79)).alloc
        (.cells #[.int .i64 ck, .int .i64 R, .int .i64 N, .int .i64 p, .int .i64 n, .string ⟨t.toArray⟩, .bool f, .int .i64 R2, .int .i64 N2] 77)
      go_enter Tryz.func78, Tryz.ntmps78
      go_wp2_with (first
        | (go_at_call_of 94 (Value.agg #[Value.int IntKind.i64 R, Value.int IntKind.i64 N]); refine (cb _ hE2).mono ?_; rintro e w1 ⟨rfl, k1⟩
           have c1 := Lib.cell_of_heap (k1.heap cc.2 id)
           have hE3 := hE2.no k1)
        | (go_at_call_of 94 (Value.agg #[Value.int IntKind.i64 R2, Value.int IntKind.i64 N2]); refine (co _ hE3).mono ?_; rintro e w2 ⟨rfl, k2⟩))
      all_goals
        go_ret
        refine ⟨ret_bool ?_, (by repeat (first | exact Keeps.refl _ _ | assumption | refine Keeps.alloc ?_ _ | refine Keeps.drewN ?_ _ | refine Keeps.drew ?_ | refine Keeps.set1 ?_ _ | refine Keeps.no ?_ (by assumption) | refine Keeps.any ?_))⟩
        have e1 := Hb.out
        have e2 := Ho.out
        have e3 := H1.out
        simp_all [Off.rightEv]
        try omega
  · have hx : (kd != 1) = true := by simpa using h1
    have H1 := Lib.hid h1
    clear h1
    go_enter Tryz.func78, Tryz.ntmps78
    go_wp2
    go_ret
    refine ⟨ret_bool ?_, (by repeat (first | exact Keeps.refl _ _ | assumption | refine Keeps.alloc ?_ _ | refine Keeps.drewN ?_ _ | refine Keeps.drew ?_ | refine Keeps.set1 ?_ _ | refine Keeps.no ?_ (by assumption) | refine Keeps.any ?_))⟩
    have e3 := H1.out
    simp [Off.rightEv, e3]

end Go.Proofs.YtkpenijilnagjaaGreatDoor
