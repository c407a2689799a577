/- The words of an event, by its kind (printed by genshow.py). -/
import Derived.Test.YtkpenijilnagjaaGreatDoorShowBase
namespace Go.Proofs.YtkpenijilnagjaaGreatDoor
open Go.RowKit

set_option maxRecDepth 100000 in
set_option maxHeartbeats 4000000 in
theorem show_start (en eto ek : Int) (ef : Bool) (ck R N p n : Int) (t : List UInt8) (f : Bool) (R2 N2 : Int) (w : World) (hE : Env w) (hin : EvFits ⟨7, en, eto, ek, ef, ⟨ck, ⟨R, N⟩, p, n, t, f, ⟨R2, N2⟩⟩⟩) :
    Calls Tryz.prog 40 #[evV ⟨7, en, eto, ek, ef, ⟨ck, ⟨R, N⟩, p, n, t, f, ⟨R2, N2⟩⟩⟩] w (ShowPost w ⟨7, en, eto, ek, ef, ⟨ck, ⟨R, N⟩, p, n, t, f, ⟨R2, N2⟩⟩⟩) := by
  have hz := hE.size
  obtain ⟨hn1, hn2, hn3, hin⟩ := hin
  simp only at hn1 hn2 hn3
  obtain ⟨be0, bl0, bt0⟩ := three_boxes w (.cells #[.int .i64 7, .int .i64 en, .int .i64 eto, .int .i64 ek, .bool ef, .int .i64 ck, .int .i64 R, .int .i64 N, .int .i64 p, .int .i64 n, .string ⟨t.toArray⟩, .bool f, .int .i64 R2, .int .i64 N2] 79) (.cells #[.slice none 0 0] 147) (.cells #[.int .i64 7, .int .i64 en, .int .i64 0, .int .i64 0, .bool false, .int .i64 0, .int .i64 0, .int .i64 0, .int .i64 0, .int .i64 0, .string ⟨#[]⟩, .bool false, .int .i64 0, .int .i64 0] 79)
  have hE0 : Env (((w.alloc (.cells #[.int .i64 7, .int .i64 en, .int .i64 eto, .int .i64 ek, .bool ef, .int .i64 ck, .int .i64 R, .int .i64 N, .int .i64 p, .int .i64 n, .string ⟨t.toArray⟩, .bool f, .int .i64 R2, .int .i64 N2] 79)).alloc (.cells #[.slice none 0 0] 147)).alloc (.cells #[.int .i64 7, .int .i64 en, .int .i64 0, .int .i64 0, .bool false, .int .i64 0, .int .i64 0, .int .i64 0, .int .i64 0, .int .i64 0, .string ⟨#[]⟩, .bool false, .int .i64 0, .int .i64 0] 79)) := ((hE.alloc _).alloc _).alloc _
  have K0 : Keeps (LS (w.heap.size + 1) (((w.alloc (.cells #[.int .i64 7, .int .i64 en, .int .i64 eto, .int .i64 ek, .bool ef, .int .i64 ck, .int .i64 R, .int .i64 N, .int .i64 p, .int .i64 n, .string ⟨t.toArray⟩, .bool f, .int .i64 R2, .int .i64 N2] 79)).alloc (.cells #[.slice none 0 0] 147)).alloc (.cells #[.int .i64 7, .int .i64 en, .int .i64 0, .int .i64 0, .bool false, .int .i64 0, .int .i64 0, .int .i64 0, .int .i64 0, .int .i64 0, .string ⟨#[]⟩, .bool false, .int .i64 0, .int .i64 0] 79))) w (((w.alloc (.cells #[.int .i64 7, .int .i64 en, .int .i64 eto, .int .i64 ek, .bool ef, .int .i64 ck, .int .i64 R, .int .i64 N, .int .i64 p, .int .i64 n, .string ⟨t.toArray⟩, .bool f, .int .i64 R2, .int .i64 N2] 79)).alloc (.cells #[.slice none 0 0] 147)).alloc (.cells #[.int .i64 7, .int .i64 en, .int .i64 0, .int .i64 0, .bool false, .int .i64 0, .int .i64 0, .int .i64 0, .int .i64 0, .int .i64 0, .string ⟨#[]⟩, .bool false, .int .i64 0, .int .i64 0] 79)) := (((Keeps.refl _ w).alloc _).alloc _).alloc _
  have hs0 : (((w.alloc (.cells #[.int .i64 7, .int .i64 en, .int .i64 eto, .int .i64 ek, .bool ef, .int .i64 ck, .int .i64 R, .int .i64 N, .int .i64 p, .int .i64 n, .string ⟨t.toArray⟩, .bool f, .int .i64 R2, .int .i64 N2] 79)).alloc (.cells #[.slice none 0 0] 147)).alloc (.cells #[.int .i64 7, .int .i64 en, .int .i64 0, .int .i64 0, .bool false, .int .i64 0, .int .i64 0, .int .i64 0, .int .i64 0, .int .i64 0, .string ⟨#[]⟩, .bool false, .int .i64 0, .int .i64 0] 79)).heap.size = w.heap.size + 3 := by simp
  go_enter Tryz.func40, Tryz.ntmps40
  go_wp2_with fail
  generalize hW0 : (((w.alloc (.cells #[.int .i64 7, .int .i64 en, .int .i64 eto, .int .i64 ek, .bool ef, .int .i64 ck, .int .i64 R, .int .i64 N, .int .i64 p, .int .i64 n, .string ⟨t.toArray⟩, .bool f, .int .i64 R2, .int .i64 N2] 79)).alloc (.cells #[.slice none 0 0] 147)).alloc (.cells #[.int .i64 7, .int .i64 en, .int .i64 0, .int .i64 0, .bool false, .int .i64 0, .int .i64 0, .int .i64 0, .int .i64 0, .int .i64 0, .string ⟨#[]⟩, .bool false, .int .i64 0, .int .i64 0] 79)) = W0 at *
  have hl0 : LineIs (w.heap.size + 1) (.slice none 0 0) [] W0 := ⟨bl0, World.ownsRow_nil _ _ _ _⟩
  have k0 : Keeps No w W0 := K0.mono fun k e hlt => by rcases e with rfl | ⟨h, _⟩ <;> omega
  clear hW0 K0
  refine (add_any (w.heap.size + 1) _ 1 1 _ [] [Off.sStart] _ (hl0.alloc (.cells #[strV Off.sStart] 9)) rfl (one_cell_at _ _ (by omega)) (by simp)).mono ?_
  rintro e w1 ⟨rfl, ⟨v1, hl1⟩, q1⟩
  replace hl1 : LineIs (w.heap.size + 1) v1 [Off.sStart] w1 := hl1
  have be1 := q1.heap (heap_alloc_keep be0 (.cells #[strV Off.sStart] 9)) (not_LS (heap_alloc_keep be0 (.cells #[strV Off.sStart] 9)) (by omega) (by decide))
  have bt1 := q1.heap (heap_alloc_keep bt0 (.cells #[strV Off.sStart] 9)) (not_LS (heap_alloc_keep bt0 (.cells #[strV Off.sStart] 9)) (by omega) (by decide))
  have k1 : Keeps No w w1 := Keeps.line_no (k0.alloc _) q1 (by omega)
  have hE1 : Env w1 := hE.no k1
  have hs1 : w.heap.size + 3 ≤ w1.heap.size := Nat.le_trans (by first | omega | (simp; omega)) q1.size
  obtain ⟨g1, c1, rfl, hc1, hg1, hr1⟩ := hl1.row (by simp)
  clear be0 bt0 k0 hE0 hl0 bl0
  have xe1 := Lib.cell_of_heap be1; have xl1 := Lib.cell_of_heap hl1.1; have xt1 := Lib.cell_of_heap bt1; have ut1 := Lib.frozen_of_heap bt1
  go_wp2_with fail
  refine (numbers_any (w.heap.size + 1) w1.heap.size _ [Off.sStart] [en] _ (hE1.alloc (.cells #[.int .i64 en] 3)) (by omega) (hl1.alloc (.cells #[.int .i64 en] 3)) (heap_alloc_new w1 _) (by omega) (by simp [hn1]) (by simp)).mono ?_
  rintro e w2 ⟨rfl, ⟨v2, hl2⟩, q2⟩
  replace hl2 : LineIs (w.heap.size + 1) v2 [Off.sStart, Lib.itoa en] w2 := hl2
  have be2 := q2.heap (heap_alloc_keep be1 (.cells #[.int .i64 en] 3)) (not_LS (heap_alloc_keep be1 (.cells #[.int .i64 en] 3)) (by omega) (by decide))
  have bt2 := q2.heap (heap_alloc_keep bt1 (.cells #[.int .i64 en] 3)) (not_LS (heap_alloc_keep bt1 (.cells #[.int .i64 en] 3)) (by omega) (by decide))
  have k2 : Keeps No w w2 := Keeps.line_no (k1.alloc _) q2 (by omega)
  have hE2 : Env w2 := hE.no k2
  have hs2 : w.heap.size + 3 ≤ w2.heap.size := Nat.le_trans (by first | omega | (simp; omega)) q2.size
  obtain ⟨g2, c2, rfl, hc2, hg2, hr2⟩ := hl2.row (by simp)
  clear be1 bt1 k1 hE1 hl1 hc1 hg1 hr1 xe1 xl1 xt1 ut1
  have xe2 := Lib.cell_of_heap be2; have xl2 := Lib.cell_of_heap hl2.1; have xt2 := Lib.cell_of_heap bt2; have ut2 := Lib.frozen_of_heap bt2
  go_wp2_with fail
  clear xe2 xl2 xt2 ut2
  have xe := cells_regrown be2; have xl := cells_regrown hl2.1; have xt := cells_regrown bt2
  have cJ := join_regrown g2 c2 ([Off.sStart, Lib.itoa en]) w2 hr2 hg2 hc2 (by simp) (evLine_len ⟨7, en, eto, ek, ef, ⟨ck, ⟨R, N⟩, p, n, t, f, ⟨R2, N2⟩⟩⟩ ⟨hn1, hn2, hn3, hin⟩)
  have cR := right_regrown ⟨7, en, eto, ek, ef, ⟨ck, ⟨R, N⟩, p, n, t, f, ⟨R2, N2⟩⟩⟩ w2 hE2
  have hK := Lib.hid (show Off.evOk ⟨7, en, eto, ek, ef, ⟨ck, ⟨R, N⟩, p, n, t, f, ⟨R2, N2⟩⟩⟩ = _ from evOk_eq (told := ⟨7, en, 0, 0, false, ⟨0, ⟨0, 0⟩, 0, 0, [], false, ⟨0, 0⟩⟩⟩) (by first | rfl | (unfold Off.evTold; rw [if_pos rfl, hT.out])) (by simp [Off.evWords]))
  have HE := Lib.hid hE2
  clear hE hn1 hn2 hn3 hin hs0 hz be2 bt2 hl2 hE2 hc2 hr2 hg2 q1 hs1 q2 hs2
  refine wp_region_quiet_below (by kernel_rfl) (by kernel_rfl) ?_
  iterate 5 (quiet_step (exact cJ _ _))
  iterate 2 (quiet_step (fail))
  have gE := guardEv; have qE := eqEvMax
  quiet_step (fail)
  clear gE qE xt
  generalize hS : evSame ⟨7, en, 0, 0, false, ⟨0, ⟨0, 0⟩, 0, 0, [], false, ⟨0, 0⟩⟩⟩ ⟨7, en, eto, ek, ef, ⟨ck, ⟨R, N⟩, p, n, t, f, ⟨R2, N2⟩⟩⟩ = q at hK ⊢
  clear hS
  cases q
  all_goals
    repeat (quiet_step (first | exact cJ _ _ | exact cR _ _))
    refine wpQuiet_nil ?_
    intro _ hw'
    obtain ⟨⟨dq, osq⟩, hw''⟩ := hw'
    subst hw''
    clear cJ cR xe xl
    go_wp2
    go_ret2
    refine ⟨?_, k2.no (keeps_regrown w2 dq osq)⟩
    rw [hK.out]
    rfl

set_option maxRecDepth 100000 in
set_option maxHeartbeats 4000000 in
theorem show_drop (en eto ek : Int) (ef : Bool) (ck R N p n : Int) (t : List UInt8) (f : Bool) (R2 N2 : Int) (w : World) (hE : Env w) (hin : EvFits ⟨5, en, eto, ek, ef, ⟨ck, ⟨R, N⟩, p, n, t, f, ⟨R2, N2⟩⟩⟩) :
    Calls Tryz.prog 40 #[evV ⟨5, en, eto, ek, ef, ⟨ck, ⟨R, N⟩, p, n, t, f, ⟨R2, N2⟩⟩⟩] w (ShowPost w ⟨5, en, eto, ek, ef, ⟨ck, ⟨R, N⟩, p, n, t, f, ⟨R2, N2⟩⟩⟩) := by
  have hz := hE.size
  obtain ⟨hn1, hn2, hn3, hin⟩ := hin
  simp only at hn1 hn2 hn3
  obtain ⟨be0, bl0, bt0⟩ := three_boxes w (.cells #[.int .i64 5, .int .i64 en, .int .i64 eto, .int .i64 ek, .bool ef, .int .i64 ck, .int .i64 R, .int .i64 N, .int .i64 p, .int .i64 n, .string ⟨t.toArray⟩, .bool f, .int .i64 R2, .int .i64 N2] 79) (.cells #[.slice none 0 0] 147) (.cells #[.int .i64 5, .int .i64 en, .int .i64 0, .int .i64 0, .bool false, .int .i64 0, .int .i64 0, .int .i64 0, .int .i64 0, .int .i64 0, .string ⟨#[]⟩, .bool false, .int .i64 0, .int .i64 0] 79)
  have hE0 : Env (((w.alloc (.cells #[.int .i64 5, .int .i64 en, .int .i64 eto, .int .i64 ek, .bool ef, .int .i64 ck, .int .i64 R, .int .i64 N, .int .i64 p, .int .i64 n, .string ⟨t.toArray⟩, .bool f, .int .i64 R2, .int .i64 N2] 79)).alloc (.cells #[.slice none 0 0] 147)).alloc (.cells #[.int .i64 5, .int .i64 en, .int .i64 0, .int .i64 0, .bool false, .int .i64 0, .int .i64 0, .int .i64 0, .int .i64 0, .int .i64 0, .string ⟨#[]⟩, .bool false, .int .i64 0, .int .i64 0] 79)) := ((hE.alloc _).alloc _).alloc _
  have K0 : Keeps (LS (w.heap.size + 1) (((w.alloc (.cells #[.int .i64 5, .int .i64 en, .int .i64 eto, .int .i64 ek, .bool ef, .int .i64 ck, .int .i64 R, .int .i64 N, .int .i64 p, .int .i64 n, .string ⟨t.toArray⟩, .bool f, .int .i64 R2, .int .i64 N2] 79)).alloc (.cells #[.slice none 0 0] 147)).alloc (.cells #[.int .i64 5, .int .i64 en, .int .i64 0, .int .i64 0, .bool false, .int .i64 0, .int .i64 0, .int .i64 0, .int .i64 0, .int .i64 0, .string ⟨#[]⟩, .bool false, .int .i64 0, .int .i64 0] 79))) w (((w.alloc (.cells #[.int .i64 5, .int .i64 en, .int .i64 eto, .int .i64 ek, .bool ef, .int .i64 ck, .int .i64 R, .int .i64 N, .int .i64 p, .int .i64 n, .string ⟨t.toArray⟩, .bool f, .int .i64 R2, .int .i64 N2] 79)).alloc (.cells #[.slice none 0 0] 147)).alloc (.cells #[.int .i64 5, .int .i64 en, .int .i64 0, .int .i64 0, .bool false, .int .i64 0, .int .i64 0, .int .i64 0, .int .i64 0, .int .i64 0, .string ⟨#[]⟩, .bool false, .int .i64 0, .int .i64 0] 79)) := (((Keeps.refl _ w).alloc _).alloc _).alloc _
  have hs0 : (((w.alloc (.cells #[.int .i64 5, .int .i64 en, .int .i64 eto, .int .i64 ek, .bool ef, .int .i64 ck, .int .i64 R, .int .i64 N, .int .i64 p, .int .i64 n, .string ⟨t.toArray⟩, .bool f, .int .i64 R2, .int .i64 N2] 79)).alloc (.cells #[.slice none 0 0] 147)).alloc (.cells #[.int .i64 5, .int .i64 en, .int .i64 0, .int .i64 0, .bool false, .int .i64 0, .int .i64 0, .int .i64 0, .int .i64 0, .int .i64 0, .string ⟨#[]⟩, .bool false, .int .i64 0, .int .i64 0] 79)).heap.size = w.heap.size + 3 := by simp
  go_enter Tryz.func40, Tryz.ntmps40
  go_wp2_with fail
  generalize hW0 : (((w.alloc (.cells #[.int .i64 5, .int .i64 en, .int .i64 eto, .int .i64 ek, .bool ef, .int .i64 ck, .int .i64 R, .int .i64 N, .int .i64 p, .int .i64 n, .string ⟨t.toArray⟩, .bool f, .int .i64 R2, .int .i64 N2] 79)).alloc (.cells #[.slice none 0 0] 147)).alloc (.cells #[.int .i64 5, .int .i64 en, .int .i64 0, .int .i64 0, .bool false, .int .i64 0, .int .i64 0, .int .i64 0, .int .i64 0, .int .i64 0, .string ⟨#[]⟩, .bool false, .int .i64 0, .int .i64 0] 79)) = W0 at *
  have hl0 : LineIs (w.heap.size + 1) (.slice none 0 0) [] W0 := ⟨bl0, World.ownsRow_nil _ _ _ _⟩
  have k0 : Keeps No w W0 := K0.mono fun k e hlt => by rcases e with rfl | ⟨h, _⟩ <;> omega
  clear hW0 K0
  refine (add_any (w.heap.size + 1) _ 1 1 _ [] [Off.sDrop] _ (hl0.alloc (.cells #[strV Off.sDrop] 9)) rfl (one_cell_at _ _ (by omega)) (by simp)).mono ?_
  rintro e w1 ⟨rfl, ⟨v1, hl1⟩, q1⟩
  replace hl1 : LineIs (w.heap.size + 1) v1 [Off.sDrop] w1 := hl1
  have be1 := q1.heap (heap_alloc_keep be0 (.cells #[strV Off.sDrop] 9)) (not_LS (heap_alloc_keep be0 (.cells #[strV Off.sDrop] 9)) (by omega) (by decide))
  have bt1 := q1.heap (heap_alloc_keep bt0 (.cells #[strV Off.sDrop] 9)) (not_LS (heap_alloc_keep bt0 (.cells #[strV Off.sDrop] 9)) (by omega) (by decide))
  have k1 : Keeps No w w1 := Keeps.line_no (k0.alloc _) q1 (by omega)
  have hE1 : Env w1 := hE.no k1
  have hs1 : w.heap.size + 3 ≤ w1.heap.size := Nat.le_trans (by first | omega | (simp; omega)) q1.size
  obtain ⟨g1, c1, rfl, hc1, hg1, hr1⟩ := hl1.row (by simp)
  clear be0 bt0 k0 hE0 hl0 bl0
  have xe1 := Lib.cell_of_heap be1; have xl1 := Lib.cell_of_heap hl1.1; have xt1 := Lib.cell_of_heap bt1; have ut1 := Lib.frozen_of_heap bt1
  go_wp2_with fail
  refine (numbers_any (w.heap.size + 1) w1.heap.size _ [Off.sDrop] [en] _ (hE1.alloc (.cells #[.int .i64 en] 3)) (by omega) (hl1.alloc (.cells #[.int .i64 en] 3)) (heap_alloc_new w1 _) (by omega) (by simp [hn1]) (by simp)).mono ?_
  rintro e w2 ⟨rfl, ⟨v2, hl2⟩, q2⟩
  replace hl2 : LineIs (w.heap.size + 1) v2 [Off.sDrop, Lib.itoa en] w2 := hl2
  have be2 := q2.heap (heap_alloc_keep be1 (.cells #[.int .i64 en] 3)) (not_LS (heap_alloc_keep be1 (.cells #[.int .i64 en] 3)) (by omega) (by decide))
  have bt2 := q2.heap (heap_alloc_keep bt1 (.cells #[.int .i64 en] 3)) (not_LS (heap_alloc_keep bt1 (.cells #[.int .i64 en] 3)) (by omega) (by decide))
  have k2 : Keeps No w w2 := Keeps.line_no (k1.alloc _) q2 (by omega)
  have hE2 : Env w2 := hE.no k2
  have hs2 : w.heap.size + 3 ≤ w2.heap.size := Nat.le_trans (by first | omega | (simp; omega)) q2.size
  obtain ⟨g2, c2, rfl, hc2, hg2, hr2⟩ := hl2.row (by simp)
  clear be1 bt1 k1 hE1 hl1 hc1 hg1 hr1 xe1 xl1 xt1 ut1
  have xe2 := Lib.cell_of_heap be2; have xl2 := Lib.cell_of_heap hl2.1; have xt2 := Lib.cell_of_heap bt2; have ut2 := Lib.frozen_of_heap bt2
  go_wp2_with fail
  clear xe2 xl2 xt2 ut2
  have xe := cells_regrown be2; have xl := cells_regrown hl2.1; have xt := cells_regrown bt2
  have cJ := join_regrown g2 c2 ([Off.sDrop, Lib.itoa en]) w2 hr2 hg2 hc2 (by simp) (evLine_len ⟨5, en, eto, ek, ef, ⟨ck, ⟨R, N⟩, p, n, t, f, ⟨R2, N2⟩⟩⟩ ⟨hn1, hn2, hn3, hin⟩)
  have cR := right_regrown ⟨5, en, eto, ek, ef, ⟨ck, ⟨R, N⟩, p, n, t, f, ⟨R2, N2⟩⟩⟩ w2 hE2
  have hK := Lib.hid (show Off.evOk ⟨5, en, eto, ek, ef, ⟨ck, ⟨R, N⟩, p, n, t, f, ⟨R2, N2⟩⟩⟩ = _ from evOk_eq (told := ⟨5, en, 0, 0, false, ⟨0, ⟨0, 0⟩, 0, 0, [], false, ⟨0, 0⟩⟩⟩) (by first | rfl | (unfold Off.evTold; rw [if_pos rfl, hT.out])) (by simp [Off.evWords]))
  have HE := Lib.hid hE2
  clear hE hn1 hn2 hn3 hin hs0 hz be2 bt2 hl2 hE2 hc2 hr2 hg2 q1 hs1 q2 hs2
  refine wp_region_quiet_below (by kernel_rfl) (by kernel_rfl) ?_
  iterate 5 (quiet_step (exact cJ _ _))
  iterate 2 (quiet_step (fail))
  have gE := guardEv; have qE := eqEvMax
  quiet_step (fail)
  clear gE qE xt
  generalize hS : evSame ⟨5, en, 0, 0, false, ⟨0, ⟨0, 0⟩, 0, 0, [], false, ⟨0, 0⟩⟩⟩ ⟨5, en, eto, ek, ef, ⟨ck, ⟨R, N⟩, p, n, t, f, ⟨R2, N2⟩⟩⟩ = q at hK ⊢
  clear hS
  cases q
  all_goals
    repeat (quiet_step (first | exact cJ _ _ | exact cR _ _))
    refine wpQuiet_nil ?_
    intro _ hw'
    obtain ⟨⟨dq, osq⟩, hw''⟩ := hw'
    subst hw''
    clear cJ cR xe xl
    go_wp2
    go_ret2
    refine ⟨?_, k2.no (keeps_regrown w2 dq osq)⟩
    rw [hK.out]
    rfl

end Go.Proofs.YtkpenijilnagjaaGreatDoor
