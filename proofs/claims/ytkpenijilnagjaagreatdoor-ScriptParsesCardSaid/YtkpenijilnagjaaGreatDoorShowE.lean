/- The words of an event, by its kind (printed by genshow.py). -/
import Derived.Test.YtkpenijilnagjaaGreatDoorShowBase
namespace Go.Proofs.YtkpenijilnagjaaGreatDoor
open Go.RowKit

set_option maxRecDepth 100000 in
set_option maxHeartbeats 4000000 in
theorem show_none (kd en eto ek : Int) (ef : Bool) (ck R N p n : Int) (t : List UInt8) (f : Bool) (R2 N2 : Int) (w : World) (hE : Env w) (hin : EvFits ⟨kd, en, eto, ek, ef, ⟨ck, ⟨R, N⟩, p, n, t, f, ⟨R2, N2⟩⟩⟩) (n1 : kd ≠ 1) (n2 : kd ≠ 2) (n8 : kd ≠ 8) (n7 : kd ≠ 7) (n5 : kd ≠ 5) (n6 : kd ≠ 6) (n3 : kd ≠ 3) (n4 : kd ≠ 4) :
    Calls Tryz.prog 40 #[evV ⟨kd, en, eto, ek, ef, ⟨ck, ⟨R, N⟩, p, n, t, f, ⟨R2, N2⟩⟩⟩] w (ShowPost w ⟨kd, en, eto, ek, ef, ⟨ck, ⟨R, N⟩, p, n, t, f, ⟨R2, N2⟩⟩⟩) := by
  have hz := hE.size
  obtain ⟨hn1, hn2, hn3, hin⟩ := hin
  simp only at hn1 hn2 hn3
  have m1 : (kd == 1) = false := beq_eq_false_iff_ne.2 n1
  have m2 : (kd == 2) = false := beq_eq_false_iff_ne.2 n2
  have m8 : (kd == 8) = false := beq_eq_false_iff_ne.2 n8
  have m7 : (kd == 7) = false := beq_eq_false_iff_ne.2 n7
  have m5 : (kd == 5) = false := beq_eq_false_iff_ne.2 n5
  have m6 : (kd == 6) = false := beq_eq_false_iff_ne.2 n6
  have m3 : (kd == 3) = false := beq_eq_false_iff_ne.2 n3
  have m4 : (kd == 4) = false := beq_eq_false_iff_ne.2 n4
  have HN := Lib.hid (And.intro n1 (And.intro n2 (And.intro n8 (And.intro n7 (And.intro n5 (And.intro n6 (And.intro n3 n4)))))))
  have HK := Lib.hid (show Off.evOk ⟨kd, en, eto, ek, ef, ⟨ck, ⟨R, N⟩, p, n, t, f, ⟨R2, N2⟩⟩⟩ = false from by unfold Off.evOk Off.evWords; simp [n1, n2, n8, n7, n5, n6, n3, n4])
  have HL := Lib.hid (show Off.evLine ⟨kd, en, eto, ek, ef, ⟨ck, ⟨R, N⟩, p, n, t, f, ⟨R2, N2⟩⟩⟩ = [] from by unfold Off.evLine Off.evWords; simp [n1, n2, n8, n7, n5, n6, n3, n4]; rfl)
  clear n1 n2 n8 n7 n5 n6 n3 n4
  obtain ⟨be0, bl0, bt0⟩ := three_boxes w (.cells #[.int .i64 kd, .int .i64 en, .int .i64 eto, .int .i64 ek, .bool ef, .int .i64 ck, .int .i64 R, .int .i64 N, .int .i64 p, .int .i64 n, .string ⟨t.toArray⟩, .bool f, .int .i64 R2, .int .i64 N2] 79) (.cells #[.slice none 0 0] 147) (.cells #[.int .i64 kd, .int .i64 en, .int .i64 0, .int .i64 0, .bool false, .int .i64 0, .int .i64 0, .int .i64 0, .int .i64 0, .int .i64 0, .string ⟨#[]⟩, .bool false, .int .i64 0, .int .i64 0] 79)
  have hE0 : Env (((w.alloc (.cells #[.int .i64 kd, .int .i64 en, .int .i64 eto, .int .i64 ek, .bool ef, .int .i64 ck, .int .i64 R, .int .i64 N, .int .i64 p, .int .i64 n, .string ⟨t.toArray⟩, .bool f, .int .i64 R2, .int .i64 N2] 79)).alloc (.cells #[.slice none 0 0] 147)).alloc (.cells #[.int .i64 kd, .int .i64 en, .int .i64 0, .int .i64 0, .bool false, .int .i64 0, .int .i64 0, .int .i64 0, .int .i64 0, .int .i64 0, .string ⟨#[]⟩, .bool false, .int .i64 0, .int .i64 0] 79)) := ((hE.alloc _).alloc _).alloc _
  have K0 : Keeps (LS (w.heap.size + 1) (((w.alloc (.cells #[.int .i64 kd, .int .i64 en, .int .i64 eto, .int .i64 ek, .bool ef, .int .i64 ck, .int .i64 R, .int .i64 N, .int .i64 p, .int .i64 n, .string ⟨t.toArray⟩, .bool f, .int .i64 R2, .int .i64 N2] 79)).alloc (.cells #[.slice none 0 0] 147)).alloc (.cells #[.int .i64 kd, .int .i64 en, .int .i64 0, .int .i64 0, .bool false, .int .i64 0, .int .i64 0, .int .i64 0, .int .i64 0, .int .i64 0, .string ⟨#[]⟩, .bool false, .int .i64 0, .int .i64 0] 79))) w (((w.alloc (.cells #[.int .i64 kd, .int .i64 en, .int .i64 eto, .int .i64 ek, .bool ef, .int .i64 ck, .int .i64 R, .int .i64 N, .int .i64 p, .int .i64 n, .string ⟨t.toArray⟩, .bool f, .int .i64 R2, .int .i64 N2] 79)).alloc (.cells #[.slice none 0 0] 147)).alloc (.cells #[.int .i64 kd, .int .i64 en, .int .i64 0, .int .i64 0, .bool false, .int .i64 0, .int .i64 0, .int .i64 0, .int .i64 0, .int .i64 0, .string ⟨#[]⟩, .bool false, .int .i64 0, .int .i64 0] 79)) := (((Keeps.refl _ w).alloc _).alloc _).alloc _
  have hs0 : (((w.alloc (.cells #[.int .i64 kd, .int .i64 en, .int .i64 eto, .int .i64 ek, .bool ef, .int .i64 ck, .int .i64 R, .int .i64 N, .int .i64 p, .int .i64 n, .string ⟨t.toArray⟩, .bool f, .int .i64 R2, .int .i64 N2] 79)).alloc (.cells #[.slice none 0 0] 147)).alloc (.cells #[.int .i64 kd, .int .i64 en, .int .i64 0, .int .i64 0, .bool false, .int .i64 0, .int .i64 0, .int .i64 0, .int .i64 0, .int .i64 0, .string ⟨#[]⟩, .bool false, .int .i64 0, .int .i64 0] 79)).heap.size = w.heap.size + 3 := by simp
  go_enter Tryz.func40, Tryz.ntmps40
  go_wp2_with fail
  generalize hW0 : (((w.alloc (.cells #[.int .i64 kd, .int .i64 en, .int .i64 eto, .int .i64 ek, .bool ef, .int .i64 ck, .int .i64 R, .int .i64 N, .int .i64 p, .int .i64 n, .string ⟨t.toArray⟩, .bool f, .int .i64 R2, .int .i64 N2] 79)).alloc (.cells #[.slice none 0 0] 147)).alloc (.cells #[.int .i64 kd, .int .i64 en, .int .i64 0, .int .i64 0, .bool false, .int .i64 0, .int .i64 0, .int .i64 0, .int .i64 0, .int .i64 0, .string ⟨#[]⟩, .bool false, .int .i64 0, .int .i64 0] 79)) = W0 at *
  have hl0 : LineIs (w.heap.size + 1) (.slice none 0 0) [] W0 := ⟨bl0, World.ownsRow_nil _ _ _ _⟩
  have k0 : Keeps No w W0 := K0.mono fun k e hlt => by rcases e with rfl | ⟨h, _⟩ <;> omega
  clear hW0 K0
  have xe := cells_regrown be0; have xl := cells_regrown hl0.1; have xt := cells_regrown bt0
  have cJ : ∀ d os, Calls Tryz.prog 77 #[.slice none 0 0, .string ⟨#[32]⟩] (Sort.grow (redrawn W0 d) os) fun e w => e = .returned (.string ⟨#[]⟩) ∧ ∃ p : Regrown, w = Sort.grow (redrawn W0 p.d) p.os :=
    fun d os => calls_regrown ((lib_join_nil none 0 _).mono fun e w' ⟨h1, h2⟩ => ⟨h1, h2 ▸ Keeps.refl _ _⟩)
  have cR := right_regrown ⟨kd, en, eto, ek, ef, ⟨ck, ⟨R, N⟩, p, n, t, f, ⟨R2, N2⟩⟩⟩ W0 hE0
  have hK := HK; have hL := HL; clear HK HL
  have HE := Lib.hid hE0
  clear hE hn1 hn2 hn3 hin hs0 hz be0 bt0 hl0 hE0
  refine wp_region_quiet_below (by kernel_rfl) (by kernel_rfl) ?_
  iterate 5 (quiet_step (exact cJ _ _))
  iterate 2 (quiet_step (fail))
  have gE := guardEv; have qE := eqEvMax
  quiet_step (fail)
  clear gE qE xt
  generalize hS : evSame ⟨kd, en, 0, 0, false, ⟨0, ⟨0, 0⟩, 0, 0, [], false, ⟨0, 0⟩⟩⟩ ⟨kd, en, eto, ek, ef, ⟨ck, ⟨R, N⟩, p, n, t, f, ⟨R2, N2⟩⟩⟩ = q at ⊢
  clear hS
  cases q
  all_goals
    repeat (quiet_step (first | exact cJ _ _ | exact cR _ _))
    refine wpQuiet_nil ?_
    intro _ hw'
    obtain ⟨⟨dq, osq⟩, hw''⟩ := hw'
    subst hw''
    clear cJ cR xe xl
    go_wp2
    go_ret2
    refine ⟨?_, k0.no (keeps_regrown W0 dq osq)⟩
    rw [hK.out, hL.out]
    try rfl

set_option maxRecDepth 100000 in
set_option maxHeartbeats 4000000 in
theorem show_do (en eto ek : Int) (ef : Bool) (ck R N p n : Int) (t : List UInt8) (f : Bool) (R2 N2 : Int) (w : World) (hE : Env w) (hin : EvFits ⟨1, en, eto, ek, ef, ⟨ck, ⟨R, N⟩, p, n, t, f, ⟨R2, N2⟩⟩⟩) :
    Calls Tryz.prog 40 #[evV ⟨1, en, eto, ek, ef, ⟨ck, ⟨R, N⟩, p, n, t, f, ⟨R2, N2⟩⟩⟩] w (ShowPost w ⟨1, en, eto, ek, ef, ⟨ck, ⟨R, N⟩, p, n, t, f, ⟨R2, N2⟩⟩⟩) := by
  have hz := hE.size
  obtain ⟨hn1, hn2, hn3, hin⟩ := hin
  simp only at hn1 hn2 hn3
  obtain ⟨be0, bl0, bt0⟩ := three_boxes w (.cells #[.int .i64 1, .int .i64 en, .int .i64 eto, .int .i64 ek, .bool ef, .int .i64 ck, .int .i64 R, .int .i64 N, .int .i64 p, .int .i64 n, .string ⟨t.toArray⟩, .bool f, .int .i64 R2, .int .i64 N2] 79) (.cells #[.slice none 0 0] 147) (.cells #[.int .i64 1, .int .i64 en, .int .i64 0, .int .i64 0, .bool false, .int .i64 0, .int .i64 0, .int .i64 0, .int .i64 0, .int .i64 0, .string ⟨#[]⟩, .bool false, .int .i64 0, .int .i64 0] 79)
  have hE0 : Env (((w.alloc (.cells #[.int .i64 1, .int .i64 en, .int .i64 eto, .int .i64 ek, .bool ef, .int .i64 ck, .int .i64 R, .int .i64 N, .int .i64 p, .int .i64 n, .string ⟨t.toArray⟩, .bool f, .int .i64 R2, .int .i64 N2] 79)).alloc (.cells #[.slice none 0 0] 147)).alloc (.cells #[.int .i64 1, .int .i64 en, .int .i64 0, .int .i64 0, .bool false, .int .i64 0, .int .i64 0, .int .i64 0, .int .i64 0, .int .i64 0, .string ⟨#[]⟩, .bool false, .int .i64 0, .int .i64 0] 79)) := ((hE.alloc _).alloc _).alloc _
  have K0 : Keeps (LS (w.heap.size + 1) (((w.alloc (.cells #[.int .i64 1, .int .i64 en, .int .i64 eto, .int .i64 ek, .bool ef, .int .i64 ck, .int .i64 R, .int .i64 N, .int .i64 p, .int .i64 n, .string ⟨t.toArray⟩, .bool f, .int .i64 R2, .int .i64 N2] 79)).alloc (.cells #[.slice none 0 0] 147)).alloc (.cells #[.int .i64 1, .int .i64 en, .int .i64 0, .int .i64 0, .bool false, .int .i64 0, .int .i64 0, .int .i64 0, .int .i64 0, .int .i64 0, .string ⟨#[]⟩, .bool false, .int .i64 0, .int .i64 0] 79))) w (((w.alloc (.cells #[.int .i64 1, .int .i64 en, .int .i64 eto, .int .i64 ek, .bool ef, .int .i64 ck, .int .i64 R, .int .i64 N, .int .i64 p, .int .i64 n, .string ⟨t.toArray⟩, .bool f, .int .i64 R2, .int .i64 N2] 79)).alloc (.cells #[.slice none 0 0] 147)).alloc (.cells #[.int .i64 1, .int .i64 en, .int .i64 0, .int .i64 0, .bool false, .int .i64 0, .int .i64 0, .int .i64 0, .int .i64 0, .int .i64 0, .string ⟨#[]⟩, .bool false, .int .i64 0, .int .i64 0] 79)) := (((Keeps.refl _ w).alloc _).alloc _).alloc _
  have hs0 : (((w.alloc (.cells #[.int .i64 1, .int .i64 en, .int .i64 eto, .int .i64 ek, .bool ef, .int .i64 ck, .int .i64 R, .int .i64 N, .int .i64 p, .int .i64 n, .string ⟨t.toArray⟩, .bool f, .int .i64 R2, .int .i64 N2] 79)).alloc (.cells #[.slice none 0 0] 147)).alloc (.cells #[.int .i64 1, .int .i64 en, .int .i64 0, .int .i64 0, .bool false, .int .i64 0, .int .i64 0, .int .i64 0, .int .i64 0, .int .i64 0, .string ⟨#[]⟩, .bool false, .int .i64 0, .int .i64 0] 79)).heap.size = w.heap.size + 3 := by simp
  go_enter Tryz.func40, Tryz.ntmps40
  go_wp2_with fail
  generalize hW0 : (((w.alloc (.cells #[.int .i64 1, .int .i64 en, .int .i64 eto, .int .i64 ek, .bool ef, .int .i64 ck, .int .i64 R, .int .i64 N, .int .i64 p, .int .i64 n, .string ⟨t.toArray⟩, .bool f, .int .i64 R2, .int .i64 N2] 79)).alloc (.cells #[.slice none 0 0] 147)).alloc (.cells #[.int .i64 1, .int .i64 en, .int .i64 0, .int .i64 0, .bool false, .int .i64 0, .int .i64 0, .int .i64 0, .int .i64 0, .int .i64 0, .string ⟨#[]⟩, .bool false, .int .i64 0, .int .i64 0] 79)) = W0 at *
  have hl0 : LineIs (w.heap.size + 1) (.slice none 0 0) [] W0 := ⟨bl0, World.ownsRow_nil _ _ _ _⟩
  have k0 : Keeps No w W0 := K0.mono fun k e hlt => by rcases e with rfl | ⟨h, _⟩ <;> omega
  clear hW0 K0
  refine (add_any (w.heap.size + 1) _ 1 1 _ [] [Off.sDo] _ (hl0.alloc (.cells #[strV Off.sDo] 9)) rfl (one_cell_at _ _ (by omega)) (by simp)).mono ?_
  rintro e w1 ⟨rfl, ⟨v1, hl1⟩, q1⟩
  replace hl1 : LineIs (w.heap.size + 1) v1 [Off.sDo] w1 := hl1
  have be1 := q1.heap (heap_alloc_keep be0 (.cells #[strV Off.sDo] 9)) (not_LS (heap_alloc_keep be0 (.cells #[strV Off.sDo] 9)) (by omega) (by decide))
  have bt1 := q1.heap (heap_alloc_keep bt0 (.cells #[strV Off.sDo] 9)) (not_LS (heap_alloc_keep bt0 (.cells #[strV Off.sDo] 9)) (by omega) (by decide))
  have k1 : Keeps No w w1 := Keeps.line_no (k0.alloc _) q1 (by omega)
  have hE1 : Env w1 := hE.no k1
  have hs1 : w.heap.size + 3 ≤ w1.heap.size := Nat.le_trans (by first | omega | (simp; omega)) q1.size
  obtain ⟨g1, c1, rfl, hc1, hg1, hr1⟩ := hl1.row (by simp)
  clear be0 bt0 k0 hE0 hl0 bl0
  have xe1 := Lib.cell_of_heap be1; have xl1 := Lib.cell_of_heap hl1.1; have xt1 := Lib.cell_of_heap bt1; have ut1 := Lib.frozen_of_heap bt1
  go_wp2_with fail
  refine (numbers_any (w.heap.size + 1) w1.heap.size _ [Off.sDo] [en] _ (hE1.alloc (.cells #[.int .i64 en] 3)) (by omega) (hl1.alloc (.cells #[.int .i64 en] 3)) (heap_alloc_new w1 _) (by omega) (by simp [hn1]) (by simp)).mono ?_
  rintro e w2 ⟨rfl, ⟨v2, hl2⟩, q2⟩
  replace hl2 : LineIs (w.heap.size + 1) v2 [Off.sDo, Lib.itoa en] w2 := hl2
  have be2 := q2.heap (heap_alloc_keep be1 (.cells #[.int .i64 en] 3)) (not_LS (heap_alloc_keep be1 (.cells #[.int .i64 en] 3)) (by omega) (by decide))
  have bt2 := q2.heap (heap_alloc_keep bt1 (.cells #[.int .i64 en] 3)) (not_LS (heap_alloc_keep bt1 (.cells #[.int .i64 en] 3)) (by omega) (by decide))
  have k2 : Keeps No w w2 := Keeps.line_no (k1.alloc _) q2 (by omega)
  have hE2 : Env w2 := hE.no k2
  have hs2 : w.heap.size + 3 ≤ w2.heap.size := Nat.le_trans (by first | omega | (simp; omega)) q2.size
  obtain ⟨g2, c2, rfl, hc2, hg2, hr2⟩ := hl2.row (by simp)
  clear be1 bt1 k1 hE1 hl1 hc1 hg1 hr1 xe1 xl1 xt1 ut1
  have xe2 := Lib.cell_of_heap be2; have xl2 := Lib.cell_of_heap hl2.1; have xt2 := Lib.cell_of_heap bt2; have ut2 := Lib.frozen_of_heap bt2
  go_wp2_with fail
  refine (lcmd_any (w.heap.size + 1) _ [Off.sDo, Lib.itoa en] ⟨ck, ⟨R, N⟩, p, n, t, f, ⟨R2, N2⟩⟩ _ hE2 (by omega) hl2 hin (by simp)).mono ?_
  rintro e w3 ⟨rfl, ⟨v3, hl3⟩, q3⟩
  replace hl3 : LineIs (w.heap.size + 1) v3 ([Off.sDo, Lib.itoa en] ++ Off.cmdWords ⟨ck, ⟨R, N⟩, p, n, t, f, ⟨R2, N2⟩⟩) w3 := hl3
  have be3 := q3.heap be2 (not_LS be2 (by omega) (by decide))
  have bt3 := q3.heap bt2 (not_LS bt2 (by omega) (by decide))
  have k3 : Keeps No w w3 := Keeps.line_no k2 q3 (by omega)
  have hE3 : Env w3 := hE.no k3
  have hs3 : w.heap.size + 3 ≤ w3.heap.size := Nat.le_trans (by first | omega | (simp; omega)) q3.size
  obtain ⟨g3, c3, rfl, hc3, hg3, hr3⟩ := hl3.row (by simp)
  clear be2 bt2 k2 hE2 hl2 hc2 hg2 hr2 xe2 xl2 xt2 ut2
  have xe3 := Lib.cell_of_heap be3; have xl3 := Lib.cell_of_heap hl3.1; have xt3 := Lib.cell_of_heap bt3; have ut3 := Lib.frozen_of_heap bt3
  generalize hT0 : Off.cmdTold ⟨ck, ⟨R, N⟩, p, n, t, f, ⟨R2, N2⟩⟩ = d
  obtain ⟨dk, ⟨dR, dN⟩, dp, dn, dt, df, ⟨dR2, dN2⟩⟩ := d
  have hT := Lib.hid hT0; clear hT0
  go_wp2_with fail
  have bt3_0 : (w3.setCell ⟨w.heap.size + 1 + 1, 5, none⟩ (.int .i64 dk)).heap[w.heap.size + 1 + 1]? = some (.cells #[.int .i64 1, .int .i64 en, .int .i64 0, .int .i64 0, .bool false, .int .i64 dk, .int .i64 0, .int .i64 0, .int .i64 0, .int .i64 0, .string ⟨#[]⟩, .bool false, .int .i64 0, .int .i64 0] 79 (0, 0)) := heap_set bt3 5 (.int .i64 dk)
  have bt3_1 : ((w3.setCell ⟨w.heap.size + 1 + 1, 5, none⟩ (.int .i64 dk)).setCell ⟨w.heap.size + 1 + 1, 6, none⟩ (.int .i64 dR)).heap[w.heap.size + 1 + 1]? = some (.cells #[.int .i64 1, .int .i64 en, .int .i64 0, .int .i64 0, .bool false, .int .i64 dk, .int .i64 dR, .int .i64 0, .int .i64 0, .int .i64 0, .string ⟨#[]⟩, .bool false, .int .i64 0, .int .i64 0] 79 (0, 0)) := heap_set bt3_0 6 (.int .i64 dR)
  have bt3_2 : (((w3.setCell ⟨w.heap.size + 1 + 1, 5, none⟩ (.int .i64 dk)).setCell ⟨w.heap.size + 1 + 1, 6, none⟩ (.int .i64 dR)).setCell ⟨w.heap.size + 1 + 1, 7, none⟩ (.int .i64 dN)).heap[w.heap.size + 1 + 1]? = some (.cells #[.int .i64 1, .int .i64 en, .int .i64 0, .int .i64 0, .bool false, .int .i64 dk, .int .i64 dR, .int .i64 dN, .int .i64 0, .int .i64 0, .string ⟨#[]⟩, .bool false, .int .i64 0, .int .i64 0] 79 (0, 0)) := heap_set bt3_1 7 (.int .i64 dN)
  have bt3_3 : ((((w3.setCell ⟨w.heap.size + 1 + 1, 5, none⟩ (.int .i64 dk)).setCell ⟨w.heap.size + 1 + 1, 6, none⟩ (.int .i64 dR)).setCell ⟨w.heap.size + 1 + 1, 7, none⟩ (.int .i64 dN)).setCell ⟨w.heap.size + 1 + 1, 8, none⟩ (.int .i64 dp)).heap[w.heap.size + 1 + 1]? = some (.cells #[.int .i64 1, .int .i64 en, .int .i64 0, .int .i64 0, .bool false, .int .i64 dk, .int .i64 dR, .int .i64 dN, .int .i64 dp, .int .i64 0, .string ⟨#[]⟩, .bool false, .int .i64 0, .int .i64 0] 79 (0, 0)) := heap_set bt3_2 8 (.int .i64 dp)
  have bt3_4 : (((((w3.setCell ⟨w.heap.size + 1 + 1, 5, none⟩ (.int .i64 dk)).setCell ⟨w.heap.size + 1 + 1, 6, none⟩ (.int .i64 dR)).setCell ⟨w.heap.size + 1 + 1, 7, none⟩ (.int .i64 dN)).setCell ⟨w.heap.size + 1 + 1, 8, none⟩ (.int .i64 dp)).setCell ⟨w.heap.size + 1 + 1, 9, none⟩ (.int .i64 dn)).heap[w.heap.size + 1 + 1]? = some (.cells #[.int .i64 1, .int .i64 en, .int .i64 0, .int .i64 0, .bool false, .int .i64 dk, .int .i64 dR, .int .i64 dN, .int .i64 dp, .int .i64 dn, .string ⟨#[]⟩, .bool false, .int .i64 0, .int .i64 0] 79 (0, 0)) := heap_set bt3_3 9 (.int .i64 dn)
  have bt3_5 : ((((((w3.setCell ⟨w.heap.size + 1 + 1, 5, none⟩ (.int .i64 dk)).setCell ⟨w.heap.size + 1 + 1, 6, none⟩ (.int .i64 dR)).setCell ⟨w.heap.size + 1 + 1, 7, none⟩ (.int .i64 dN)).setCell ⟨w.heap.size + 1 + 1, 8, none⟩ (.int .i64 dp)).setCell ⟨w.heap.size + 1 + 1, 9, none⟩ (.int .i64 dn)).setCell ⟨w.heap.size + 1 + 1, 10, none⟩ (.string ⟨dt.toArray⟩)).heap[w.heap.size + 1 + 1]? = some (.cells #[.int .i64 1, .int .i64 en, .int .i64 0, .int .i64 0, .bool false, .int .i64 dk, .int .i64 dR, .int .i64 dN, .int .i64 dp, .int .i64 dn, .string ⟨dt.toArray⟩, .bool false, .int .i64 0, .int .i64 0] 79 (0, 0)) := heap_set bt3_4 10 (.string ⟨dt.toArray⟩)
  have bt3_6 : (((((((w3.setCell ⟨w.heap.size + 1 + 1, 5, none⟩ (.int .i64 dk)).setCell ⟨w.heap.size + 1 + 1, 6, none⟩ (.int .i64 dR)).setCell ⟨w.heap.size + 1 + 1, 7, none⟩ (.int .i64 dN)).setCell ⟨w.heap.size + 1 + 1, 8, none⟩ (.int .i64 dp)).setCell ⟨w.heap.size + 1 + 1, 9, none⟩ (.int .i64 dn)).setCell ⟨w.heap.size + 1 + 1, 10, none⟩ (.string ⟨dt.toArray⟩)).setCell ⟨w.heap.size + 1 + 1, 11, none⟩ (.bool df)).heap[w.heap.size + 1 + 1]? = some (.cells #[.int .i64 1, .int .i64 en, .int .i64 0, .int .i64 0, .bool false, .int .i64 dk, .int .i64 dR, .int .i64 dN, .int .i64 dp, .int .i64 dn, .string ⟨dt.toArray⟩, .bool df, .int .i64 0, .int .i64 0] 79 (0, 0)) := heap_set bt3_5 11 (.bool df)
  have bt3_7 : ((((((((w3.setCell ⟨w.heap.size + 1 + 1, 5, none⟩ (.int .i64 dk)).setCell ⟨w.heap.size + 1 + 1, 6, none⟩ (.int .i64 dR)).setCell ⟨w.heap.size + 1 + 1, 7, none⟩ (.int .i64 dN)).setCell ⟨w.heap.size + 1 + 1, 8, none⟩ (.int .i64 dp)).setCell ⟨w.heap.size + 1 + 1, 9, none⟩ (.int .i64 dn)).setCell ⟨w.heap.size + 1 + 1, 10, none⟩ (.string ⟨dt.toArray⟩)).setCell ⟨w.heap.size + 1 + 1, 11, none⟩ (.bool df)).setCell ⟨w.heap.size + 1 + 1, 12, none⟩ (.int .i64 dR2)).heap[w.heap.size + 1 + 1]? = some (.cells #[.int .i64 1, .int .i64 en, .int .i64 0, .int .i64 0, .bool false, .int .i64 dk, .int .i64 dR, .int .i64 dN, .int .i64 dp, .int .i64 dn, .string ⟨dt.toArray⟩, .bool df, .int .i64 dR2, .int .i64 0] 79 (0, 0)) := heap_set bt3_6 12 (.int .i64 dR2)
  have bt3_8 : (((((((((w3.setCell ⟨w.heap.size + 1 + 1, 5, none⟩ (.int .i64 dk)).setCell ⟨w.heap.size + 1 + 1, 6, none⟩ (.int .i64 dR)).setCell ⟨w.heap.size + 1 + 1, 7, none⟩ (.int .i64 dN)).setCell ⟨w.heap.size + 1 + 1, 8, none⟩ (.int .i64 dp)).setCell ⟨w.heap.size + 1 + 1, 9, none⟩ (.int .i64 dn)).setCell ⟨w.heap.size + 1 + 1, 10, none⟩ (.string ⟨dt.toArray⟩)).setCell ⟨w.heap.size + 1 + 1, 11, none⟩ (.bool df)).setCell ⟨w.heap.size + 1 + 1, 12, none⟩ (.int .i64 dR2)).setCell ⟨w.heap.size + 1 + 1, 13, none⟩ (.int .i64 dN2)).heap[w.heap.size + 1 + 1]? = some (.cells #[.int .i64 1, .int .i64 en, .int .i64 0, .int .i64 0, .bool false, .int .i64 dk, .int .i64 dR, .int .i64 dN, .int .i64 dp, .int .i64 dn, .string ⟨dt.toArray⟩, .bool df, .int .i64 dR2, .int .i64 dN2] 79 (0, 0)) := heap_set bt3_7 13 (.int .i64 dN2)
  have be4 := (heap_set_ne (heap_set_ne (heap_set_ne (heap_set_ne (heap_set_ne (heap_set_ne (heap_set_ne (heap_set_ne (heap_set_ne be3 (j := 5) (show w.heap.size ≠ w.heap.size + 1 + 1 by omega) (.int .i64 dk)) (j := 6) (show w.heap.size ≠ w.heap.size + 1 + 1 by omega) (.int .i64 dR)) (j := 7) (show w.heap.size ≠ w.heap.size + 1 + 1 by omega) (.int .i64 dN)) (j := 8) (show w.heap.size ≠ w.heap.size + 1 + 1 by omega) (.int .i64 dp)) (j := 9) (show w.heap.size ≠ w.heap.size + 1 + 1 by omega) (.int .i64 dn)) (j := 10) (show w.heap.size ≠ w.heap.size + 1 + 1 by omega) (.string ⟨dt.toArray⟩)) (j := 11) (show w.heap.size ≠ w.heap.size + 1 + 1 by omega) (.bool df)) (j := 12) (show w.heap.size ≠ w.heap.size + 1 + 1 by omega) (.int .i64 dR2)) (j := 13) (show w.heap.size ≠ w.heap.size + 1 + 1 by omega) (.int .i64 dN2))
  have hl4 : LineIs _ _ _ _ := (((((((((hl3.keep1 ((Keeps.refl _ _).set1 (o := 5) (.int .i64 dk)) bt3 (by omega) (by decide)).keep1 ((Keeps.refl _ _).set1 (o := 6) (.int .i64 dR)) bt3_0 (by omega) (by decide)).keep1 ((Keeps.refl _ _).set1 (o := 7) (.int .i64 dN)) bt3_1 (by omega) (by decide)).keep1 ((Keeps.refl _ _).set1 (o := 8) (.int .i64 dp)) bt3_2 (by omega) (by decide)).keep1 ((Keeps.refl _ _).set1 (o := 9) (.int .i64 dn)) bt3_3 (by omega) (by decide)).keep1 ((Keeps.refl _ _).set1 (o := 10) (.string ⟨dt.toArray⟩)) bt3_4 (by omega) (by decide)).keep1 ((Keeps.refl _ _).set1 (o := 11) (.bool df)) bt3_5 (by omega) (by decide)).keep1 ((Keeps.refl _ _).set1 (o := 12) (.int .i64 dR2)) bt3_6 (by omega) (by decide)).keep1 ((Keeps.refl _ _).set1 (o := 13) (.int .i64 dN2)) bt3_7 (by omega) (by decide))
  have k4 := (Keeps.setNew (Keeps.setNew (Keeps.setNew (Keeps.setNew (Keeps.setNew (Keeps.setNew (Keeps.setNew (Keeps.setNew (Keeps.setNew k3 (j := 5) (show w.heap.size ≤ w.heap.size + 1 + 1 by omega) (.int .i64 dk)) (j := 6) (show w.heap.size ≤ w.heap.size + 1 + 1 by omega) (.int .i64 dR)) (j := 7) (show w.heap.size ≤ w.heap.size + 1 + 1 by omega) (.int .i64 dN)) (j := 8) (show w.heap.size ≤ w.heap.size + 1 + 1 by omega) (.int .i64 dp)) (j := 9) (show w.heap.size ≤ w.heap.size + 1 + 1 by omega) (.int .i64 dn)) (j := 10) (show w.heap.size ≤ w.heap.size + 1 + 1 by omega) (.string ⟨dt.toArray⟩)) (j := 11) (show w.heap.size ≤ w.heap.size + 1 + 1 by omega) (.bool df)) (j := 12) (show w.heap.size ≤ w.heap.size + 1 + 1 by omega) (.int .i64 dR2)) (j := 13) (show w.heap.size ≤ w.heap.size + 1 + 1 by omega) (.int .i64 dN2))
  have bt4 := bt3_8
  have hE4 : Env _ := hE.no k4
  clear bt3 be3 hl3 k3 hE3 hr3 hc3 hg3 xe3 xl3 xt3 ut3 bt3_0 bt3_1 bt3_2 bt3_3 bt3_4 bt3_5 bt3_6 bt3_7 bt3_8
  generalize (((((((((w3.setCell ⟨w.heap.size + 1 + 1, 5, none⟩ (.int .i64 dk)).setCell ⟨w.heap.size + 1 + 1, 6, none⟩ (.int .i64 dR)).setCell ⟨w.heap.size + 1 + 1, 7, none⟩ (.int .i64 dN)).setCell ⟨w.heap.size + 1 + 1, 8, none⟩ (.int .i64 dp)).setCell ⟨w.heap.size + 1 + 1, 9, none⟩ (.int .i64 dn)).setCell ⟨w.heap.size + 1 + 1, 10, none⟩ (.string ⟨dt.toArray⟩)).setCell ⟨w.heap.size + 1 + 1, 11, none⟩ (.bool df)).setCell ⟨w.heap.size + 1 + 1, 12, none⟩ (.int .i64 dR2)).setCell ⟨w.heap.size + 1 + 1, 13, none⟩ (.int .i64 dN2)) = w4 at *
  obtain ⟨g4, c4, he4, hc4, hg4, hr4⟩ := hl4.row (by simp)
  simp only [Value.slice.injEq, Option.some.injEq, Addr.mk.injEq, and_true, true_and] at he4
  obtain ⟨h4a, h4b⟩ := he4; subst h4a h4b
  have xe := cells_regrown be4; have xl := cells_regrown hl4.1; have xt := cells_regrown bt4
  have cJ := join_regrown g3 c3 ([Off.sDo, Lib.itoa en] ++ Off.cmdWords ⟨ck, ⟨R, N⟩, p, n, t, f, ⟨R2, N2⟩⟩) w4 hr4 hg4 hc4 (by simp; have := cmdWords_few ⟨ck, ⟨R, N⟩, p, n, t, f, ⟨R2, N2⟩⟩; omega) (evLine_len ⟨1, en, eto, ek, ef, ⟨ck, ⟨R, N⟩, p, n, t, f, ⟨R2, N2⟩⟩⟩ ⟨hn1, hn2, hn3, hin⟩)
  have cR := right_regrown ⟨1, en, eto, ek, ef, ⟨ck, ⟨R, N⟩, p, n, t, f, ⟨R2, N2⟩⟩⟩ w4 hE4
  have hK := Lib.hid (show Off.evOk ⟨1, en, eto, ek, ef, ⟨ck, ⟨R, N⟩, p, n, t, f, ⟨R2, N2⟩⟩⟩ = _ from evOk_eq (told := ⟨1, en, 0, 0, false, ⟨dk, ⟨dR, dN⟩, dp, dn, dt, df, ⟨dR2, dN2⟩⟩⟩) (by first | rfl | (unfold Off.evTold; rw [if_pos rfl, hT.out])) (by simp [Off.evWords]))
  have HE := Lib.hid hE4
  clear hE hn1 hn2 hn3 hin hs0 hz be4 bt4 hl4 hE4 hc4 hr4 hg4 q1 hs1 q2 hs2 q3 hs3
  refine wp_region_quiet_below (by kernel_rfl) (by kernel_rfl) ?_
  iterate 5 (quiet_step (exact cJ _ _))
  iterate 2 (quiet_step (fail))
  have gE := guardEv; have qE := eqEvMax
  quiet_step (fail)
  clear gE qE xt
  generalize hS : evSame ⟨1, en, 0, 0, false, ⟨dk, ⟨dR, dN⟩, dp, dn, dt, df, ⟨dR2, dN2⟩⟩⟩ ⟨1, en, eto, ek, ef, ⟨ck, ⟨R, N⟩, p, n, t, f, ⟨R2, N2⟩⟩⟩ = q at hK ⊢
  clear hS
  generalize hNN : ([Off.sDo, Lib.itoa en] ++ Off.cmdWords ⟨ck, ⟨R, N⟩, p, n, t, f, ⟨R2, N2⟩⟩).length = NN at *
  have hN0 : 0 < NN := by rw [← hNN]; simp
  have hN1 : (0 : Int) < (NN : Int) := by omega
  clear hNN
  cases q
  all_goals
    repeat (quiet_step (first | exact cJ _ _ | exact cR _ _))
    refine wpQuiet_nil ?_
    intro _ hw'
    obtain ⟨⟨dq, osq⟩, hw''⟩ := hw'
    subst hw''
    clear cJ cR xe xl
    go_wp2
    go_ret2
    refine ⟨?_, k4.no (keeps_regrown w4 dq osq)⟩
    rw [hK.out]
    rfl

end Go.Proofs.YtkpenijilnagjaaGreatDoor
