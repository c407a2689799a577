/- The scanner's event, word by word. -/
import Derived.Test.YtkpenijilnagjaaGreatDoorEvBase
namespace Go.Proofs.YtkpenijilnagjaaGreatDoor
open Go.RowKit

set_option maxRecDepth 100000 in
set_option maxHeartbeats 4000000 in
theorem event_sync (b : Nat) (s : List UInt8) (w : World) (hE : Env w) (hb : Scan b s w) (h10 : 10 ≤ b) (hs : s.length < 4294967281) (hw : Off.upto 32 s = Off.sSync) :
    Calls Tryz.prog 68 #[.pointer (some ⟨b, 0, none⟩)] w (EvPost b w (Off.event s)) := by
  have hlt := hb.lt
  have hz := hE.size
  have hne0 : ¬ b = w.heap.size := by omega
  have hne1 : ¬ b = w.heap.size + 1 := by omega
  have hr0 := behind_le 32 s
  obtain ⟨b1, c1⟩ := two_boxes w (.cells #[.int .i64 0, .int .i64 0, .int .i64 0, .int .i64 0, .bool false, .int .i64 0, .int .i64 0, .int .i64 0, .int .i64 0, .int .i64 0, .string ⟨#[]⟩, .bool false, .int .i64 0, .int .i64 0] 79) (.cells #[.int .i64 0, .int .i64 0, .int .i64 0, .int .i64 0, .bool false, .int .i64 0, .int .i64 0, .int .i64 0, .int .i64 0, .int .i64 0, .string ⟨#[]⟩, .bool false, .int .i64 0, .int .i64 0] 79)
  have hW := word_any b s _ ((hE.alloc _).alloc _) ((hb.alloc (.cells #[.int .i64 0, .int .i64 0, .int .i64 0, .int .i64 0, .bool false, .int .i64 0, .int .i64 0, .int .i64 0, .int .i64 0, .int .i64 0, .string ⟨#[]⟩, .bool false, .int .i64 0, .int .i64 0] 79)).alloc (.cells #[.int .i64 0, .int .i64 0, .int .i64 0, .int .i64 0, .bool false, .int .i64 0, .int .i64 0, .int .i64 0, .int .i64 0, .int .i64 0, .string ⟨#[]⟩, .bool false, .int .i64 0, .int .i64 0] 79)) hs
  have hR1 : Hid (Off.event s = (Off.number (Off.behind 32 s)).bind fun (n, r) => Off.eventOf Off.sSync n r) := by
    show ((Off.number (Off.behind 32 s)).bind fun (n, r) => Off.eventOf (Off.upto 32 s) n r) = _; rw [hw]
  rw [hw] at hW
  unfold Off.sSync at hW
  clear hw
  generalize Off.behind 32 s = r1 at hR1 hr0 hW
  go_enter Tryz.func68, Tryz.ntmps68
  go_wp2_with (go_at_call 106; refine hW.mono ?_; rintro e w1 ⟨rfl, hb1, k1⟩
               have b2 := k1.heap b1 (show ¬ At1 b w.heap.size by unfold At1; omega)
               have c2 := k1.heap c1 (show ¬ At1 b (w.heap.size + 1) by unfold At1; omega)
               have x1 := Lib.cell_of_heap b2; have y1 := Lib.cell_of_heap c2; have z1 := Lib.frozen_of_heap b2; have u1 := Lib.frozen_of_heap c2)
  have K1 : Keeps (At1 b) w w1 := (((Keeps.refl _ _).alloc _).alloc _).trans k1
  have hE1 : Env w1 := hE.keeps K1 fun k e => by unfold At1 at e; omega
  clear hW b1 c1
  have b1 := b2; have c1 := c2; clear b2 c2
  cases h : Off.number r1 with
  | none =>
    go_wp2_with (go_at_call 107; refine (number_bad b r1 _ hE1 hb1 h10 (by omega) h).mono ?_; rintro e w9 ⟨rfl, k9⟩)
    exact ⟨rfl, EvPost.bad (hR1.out.trans (bind_none h)) (K1.trans k9)⟩
  | some p =>
    obtain ⟨n, r2⟩ := p
    have hR2 := Lib.hid (hR1.out.trans (bind_eq h))
    have hl2 := number_rest h
    go_wp2_with (go_at_call 107; refine (number_ok b r1 r2 n _ hE1 hb1 h10 (by omega) h).mono ?_; rintro e w2 ⟨rfl, hb2, k2, _⟩
                 have b2 := k2.heap b1 (by unfold At1; omega)
                 have c2 := k2.heap c1 (by unfold At1; omega)
                 have x2 := Lib.cell_of_heap b2; have y2 := Lib.cell_of_heap c2; have z2 := Lib.frozen_of_heap b2; have u2 := Lib.frozen_of_heap c2; clear x1 y1 z1 u1)
    have K2 : Keeps (At1 b) w w2 := K1.trans k2
    have hE2 : Env w2 := hE.keeps K2 fun k e => by unfold At1 at e; omega
    clear h
    have hR3 : Off.eventOf Off.sSync n r2 = some (⟨2, n, 0, 0, false, .z⟩, r2) := rfl
    have b9 := heap_fill14 (heap_set_ne (heap_set_ne b2 (j := 1) (show w.heap.size ≠ w.heap.size + 1 by omega) (.int .i64 n)) (j := 0) (show w.heap.size ≠ w.heap.size + 1 by omega) (.int .i64 2)) (.int .i64 2) (.int .i64 n) (.int .i64 0) (.int .i64 0) (.bool false) (.int .i64 0) (.int .i64 0) (.int .i64 0) (.int .i64 0) (.int .i64 0) (.string ⟨#[]⟩) (.bool false) (.int .i64 0) (.int .i64 0)
    refine bodyPost_ret (res_ev b9 rfl) rfl (EvPost.good (hR2.out.trans hR3) rfl (Keeps.fill14 (Keeps.setNew (Keeps.setNew K2 (by omega) _) (by omega) _) (Nat.le_refl _) _ _ _ _ _ _ _ _ _ _ _ _ _ _) (Scan.fill14 (Scan.other (Scan.other hb2 (by omega) _) (by omega) _) hne0 _ _ _ _ _ _ _ _ _ _ _ _ _ _))

set_option maxRecDepth 100000 in
set_option maxHeartbeats 4000000 in
theorem event_compact (b : Nat) (s : List UInt8) (w : World) (hE : Env w) (hb : Scan b s w) (h10 : 10 ≤ b) (hs : s.length < 4294967281) (hw : Off.upto 32 s = Off.sCompact) :
    Calls Tryz.prog 68 #[.pointer (some ⟨b, 0, none⟩)] w (EvPost b w (Off.event s)) := by
  have hlt := hb.lt
  have hz := hE.size
  have hne0 : ¬ b = w.heap.size := by omega
  have hne1 : ¬ b = w.heap.size + 1 := by omega
  have hr0 := behind_le 32 s
  obtain ⟨b1, c1⟩ := two_boxes w (.cells #[.int .i64 0, .int .i64 0, .int .i64 0, .int .i64 0, .bool false, .int .i64 0, .int .i64 0, .int .i64 0, .int .i64 0, .int .i64 0, .string ⟨#[]⟩, .bool false, .int .i64 0, .int .i64 0] 79) (.cells #[.int .i64 0, .int .i64 0, .int .i64 0, .int .i64 0, .bool false, .int .i64 0, .int .i64 0, .int .i64 0, .int .i64 0, .int .i64 0, .string ⟨#[]⟩, .bool false, .int .i64 0, .int .i64 0] 79)
  have hW := word_any b s _ ((hE.alloc _).alloc _) ((hb.alloc (.cells #[.int .i64 0, .int .i64 0, .int .i64 0, .int .i64 0, .bool false, .int .i64 0, .int .i64 0, .int .i64 0, .int .i64 0, .int .i64 0, .string ⟨#[]⟩, .bool false, .int .i64 0, .int .i64 0] 79)).alloc (.cells #[.int .i64 0, .int .i64 0, .int .i64 0, .int .i64 0, .bool false, .int .i64 0, .int .i64 0, .int .i64 0, .int .i64 0, .int .i64 0, .string ⟨#[]⟩, .bool false, .int .i64 0, .int .i64 0] 79)) hs
  have hR1 : Hid (Off.event s = (Off.number (Off.behind 32 s)).bind fun (n, r) => Off.eventOf Off.sCompact n r) := by
    show ((Off.number (Off.behind 32 s)).bind fun (n, r) => Off.eventOf (Off.upto 32 s) n r) = _; rw [hw]
  rw [hw] at hW
  unfold Off.sCompact at hW
  clear hw
  generalize Off.behind 32 s = r1 at hR1 hr0 hW
  go_enter Tryz.func68, Tryz.ntmps68
  go_wp2_with (go_at_call 106; refine hW.mono ?_; rintro e w1 ⟨rfl, hb1, k1⟩
               have b2 := k1.heap b1 (show ¬ At1 b w.heap.size by unfold At1; omega)
               have c2 := k1.heap c1 (show ¬ At1 b (w.heap.size + 1) by unfold At1; omega)
               have x1 := Lib.cell_of_heap b2; have y1 := Lib.cell_of_heap c2; have z1 := Lib.frozen_of_heap b2; have u1 := Lib.frozen_of_heap c2)
  have K1 : Keeps (At1 b) w w1 := (((Keeps.refl _ _).alloc _).alloc _).trans k1
  have hE1 : Env w1 := hE.keeps K1 fun k e => by unfold At1 at e; omega
  clear hW b1 c1
  have b1 := b2; have c1 := c2; clear b2 c2
  cases h : Off.number r1 with
  | none =>
    go_wp2_with (go_at_call 107; refine (number_bad b r1 _ hE1 hb1 h10 (by omega) h).mono ?_; rintro e w9 ⟨rfl, k9⟩)
    exact ⟨rfl, EvPost.bad (hR1.out.trans (bind_none h)) (K1.trans k9)⟩
  | some p =>
    obtain ⟨n, r2⟩ := p
    have hR2 := Lib.hid (hR1.out.trans (bind_eq h))
    have hl2 := number_rest h
    go_wp2_with (go_at_call 107; refine (number_ok b r1 r2 n _ hE1 hb1 h10 (by omega) h).mono ?_; rintro e w2 ⟨rfl, hb2, k2, _⟩
                 have b2 := k2.heap b1 (by unfold At1; omega)
                 have c2 := k2.heap c1 (by unfold At1; omega)
                 have x2 := Lib.cell_of_heap b2; have y2 := Lib.cell_of_heap c2; have z2 := Lib.frozen_of_heap b2; have u2 := Lib.frozen_of_heap c2; clear x1 y1 z1 u1)
    have K2 : Keeps (At1 b) w w2 := K1.trans k2
    have hE2 : Env w2 := hE.keeps K2 fun k e => by unfold At1 at e; omega
    clear h
    have hR3 : Off.eventOf Off.sCompact n r2 = some (⟨8, n, 0, 0, false, .z⟩, r2) := rfl
    have b9 := heap_fill14 (heap_set_ne (heap_set_ne b2 (j := 1) (show w.heap.size ≠ w.heap.size + 1 by omega) (.int .i64 n)) (j := 0) (show w.heap.size ≠ w.heap.size + 1 by omega) (.int .i64 8)) (.int .i64 8) (.int .i64 n) (.int .i64 0) (.int .i64 0) (.bool false) (.int .i64 0) (.int .i64 0) (.int .i64 0) (.int .i64 0) (.int .i64 0) (.string ⟨#[]⟩) (.bool false) (.int .i64 0) (.int .i64 0)
    refine bodyPost_ret (res_ev b9 rfl) rfl (EvPost.good (hR2.out.trans hR3) rfl (Keeps.fill14 (Keeps.setNew (Keeps.setNew K2 (by omega) _) (by omega) _) (Nat.le_refl _) _ _ _ _ _ _ _ _ _ _ _ _ _ _) (Scan.fill14 (Scan.other (Scan.other hb2 (by omega) _) (by omega) _) hne0 _ _ _ _ _ _ _ _ _ _ _ _ _ _))

set_option maxRecDepth 100000 in
set_option maxHeartbeats 4000000 in
theorem event_start (b : Nat) (s : List UInt8) (w : World) (hE : Env w) (hb : Scan b s w) (h10 : 10 ≤ b) (hs : s.length < 4294967281) (hw : Off.upto 32 s = Off.sStart) :
    Calls Tryz.prog 68 #[.pointer (some ⟨b, 0, none⟩)] w (EvPost b w (Off.event s)) := by
  have hlt := hb.lt
  have hz := hE.size
  have hne0 : ¬ b = w.heap.size := by omega
  have hne1 : ¬ b = w.heap.size + 1 := by omega
  have hr0 := behind_le 32 s
  obtain ⟨b1, c1⟩ := two_boxes w (.cells #[.int .i64 0, .int .i64 0, .int .i64 0, .int .i64 0, .bool false, .int .i64 0, .int .i64 0, .int .i64 0, .int .i64 0, .int .i64 0, .string ⟨#[]⟩, .bool false, .int .i64 0, .int .i64 0] 79) (.cells #[.int .i64 0, .int .i64 0, .int .i64 0, .int .i64 0, .bool false, .int .i64 0, .int .i64 0, .int .i64 0, .int .i64 0, .int .i64 0, .string ⟨#[]⟩, .bool false, .int .i64 0, .int .i64 0] 79)
  have hW := word_any b s _ ((hE.alloc _).alloc _) ((hb.alloc (.cells #[.int .i64 0, .int .i64 0, .int .i64 0, .int .i64 0, .bool false, .int .i64 0, .int .i64 0, .int .i64 0, .int .i64 0, .int .i64 0, .string ⟨#[]⟩, .bool false, .int .i64 0, .int .i64 0] 79)).alloc (.cells #[.int .i64 0, .int .i64 0, .int .i64 0, .int .i64 0, .bool false, .int .i64 0, .int .i64 0, .int .i64 0, .int .i64 0, .int .i64 0, .string ⟨#[]⟩, .bool false, .int .i64 0, .int .i64 0] 79)) hs
  have hR1 : Hid (Off.event s = (Off.number (Off.behind 32 s)).bind fun (n, r) => Off.eventOf Off.sStart n r) := by
    show ((Off.number (Off.behind 32 s)).bind fun (n, r) => Off.eventOf (Off.upto 32 s) n r) = _; rw [hw]
  rw [hw] at hW
  unfold Off.sStart at hW
  clear hw
  generalize Off.behind 32 s = r1 at hR1 hr0 hW
  go_enter Tryz.func68, Tryz.ntmps68
  go_wp2_with (go_at_call 106; refine hW.mono ?_; rintro e w1 ⟨rfl, hb1, k1⟩
               have b2 := k1.heap b1 (show ¬ At1 b w.heap.size by unfold At1; omega)
               have c2 := k1.heap c1 (show ¬ At1 b (w.heap.size + 1) by unfold At1; omega)
               have x1 := Lib.cell_of_heap b2; have y1 := Lib.cell_of_heap c2; have z1 := Lib.frozen_of_heap b2; have u1 := Lib.frozen_of_heap c2)
  have K1 : Keeps (At1 b) w w1 := (((Keeps.refl _ _).alloc _).alloc _).trans k1
  have hE1 : Env w1 := hE.keeps K1 fun k e => by unfold At1 at e; omega
  clear hW b1 c1
  have b1 := b2; have c1 := c2; clear b2 c2
  cases h : Off.number r1 with
  | none =>
    go_wp2_with (go_at_call 107; refine (number_bad b r1 _ hE1 hb1 h10 (by omega) h).mono ?_; rintro e w9 ⟨rfl, k9⟩)
    exact ⟨rfl, EvPost.bad (hR1.out.trans (bind_none h)) (K1.trans k9)⟩
  | some p =>
    obtain ⟨n, r2⟩ := p
    have hR2 := Lib.hid (hR1.out.trans (bind_eq h))
    have hl2 := number_rest h
    go_wp2_with (go_at_call 107; refine (number_ok b r1 r2 n _ hE1 hb1 h10 (by omega) h).mono ?_; rintro e w2 ⟨rfl, hb2, k2, _⟩
                 have b2 := k2.heap b1 (by unfold At1; omega)
                 have c2 := k2.heap c1 (by unfold At1; omega)
                 have x2 := Lib.cell_of_heap b2; have y2 := Lib.cell_of_heap c2; have z2 := Lib.frozen_of_heap b2; have u2 := Lib.frozen_of_heap c2; clear x1 y1 z1 u1)
    have K2 : Keeps (At1 b) w w2 := K1.trans k2
    have hE2 : Env w2 := hE.keeps K2 fun k e => by unfold At1 at e; omega
    clear h
    have hR3 : Off.eventOf Off.sStart n r2 = some (⟨7, n, 0, 0, false, .z⟩, r2) := rfl
    have b9 := heap_fill14 (heap_set_ne (heap_set_ne b2 (j := 1) (show w.heap.size ≠ w.heap.size + 1 by omega) (.int .i64 n)) (j := 0) (show w.heap.size ≠ w.heap.size + 1 by omega) (.int .i64 7)) (.int .i64 7) (.int .i64 n) (.int .i64 0) (.int .i64 0) (.bool false) (.int .i64 0) (.int .i64 0) (.int .i64 0) (.int .i64 0) (.int .i64 0) (.string ⟨#[]⟩) (.bool false) (.int .i64 0) (.int .i64 0)
    refine bodyPost_ret (res_ev b9 rfl) rfl (EvPost.good (hR2.out.trans hR3) rfl (Keeps.fill14 (Keeps.setNew (Keeps.setNew K2 (by omega) _) (by omega) _) (Nat.le_refl _) _ _ _ _ _ _ _ _ _ _ _ _ _ _) (Scan.fill14 (Scan.other (Scan.other hb2 (by omega) _) (by omega) _) hne0 _ _ _ _ _ _ _ _ _ _ _ _ _ _))

set_option maxRecDepth 100000 in
set_option maxHeartbeats 4000000 in
theorem event_drop (b : Nat) (s : List UInt8) (w : World) (hE : Env w) (hb : Scan b s w) (h10 : 10 ≤ b) (hs : s.length < 4294967281) (hw : Off.upto 32 s = Off.sDrop) :
    Calls Tryz.prog 68 #[.pointer (some ⟨b, 0, none⟩)] w (EvPost b w (Off.event s)) := by
  have hlt := hb.lt
  have hz := hE.size
  have hne0 : ¬ b = w.heap.size := by omega
  have hne1 : ¬ b = w.heap.size + 1 := by omega
  have hr0 := behind_le 32 s
  obtain ⟨b1, c1⟩ := two_boxes w (.cells #[.int .i64 0, .int .i64 0, .int .i64 0, .int .i64 0, .bool false, .int .i64 0, .int .i64 0, .int .i64 0, .int .i64 0, .int .i64 0, .string ⟨#[]⟩, .bool false, .int .i64 0, .int .i64 0] 79) (.cells #[.int .i64 0, .int .i64 0, .int .i64 0, .int .i64 0, .bool false, .int .i64 0, .int .i64 0, .int .i64 0, .int .i64 0, .int .i64 0, .string ⟨#[]⟩, .bool false, .int .i64 0, .int .i64 0] 79)
  have hW := word_any b s _ ((hE.alloc _).alloc _) ((hb.alloc (.cells #[.int .i64 0, .int .i64 0, .int .i64 0, .int .i64 0, .bool false, .int .i64 0, .int .i64 0, .int .i64 0, .int .i64 0, .int .i64 0, .string ⟨#[]⟩, .bool false, .int .i64 0, .int .i64 0] 79)).alloc (.cells #[.int .i64 0, .int .i64 0, .int .i64 0, .int .i64 0, .bool false, .int .i64 0, .int .i64 0, .int .i64 0, .int .i64 0, .int .i64 0, .string ⟨#[]⟩, .bool false, .int .i64 0, .int .i64 0] 79)) hs
  have hR1 : Hid (Off.event s = (Off.number (Off.behind 32 s)).bind fun (n, r) => Off.eventOf Off.sDrop n r) := by
    show ((Off.number (Off.behind 32 s)).bind fun (n, r) => Off.eventOf (Off.upto 32 s) n r) = _; rw [hw]
  rw [hw] at hW
  unfold Off.sDrop at hW
  clear hw
  generalize Off.behind 32 s = r1 at hR1 hr0 hW
  go_enter Tryz.func68, Tryz.ntmps68
  go_wp2_with (go_at_call 106; refine hW.mono ?_; rintro e w1 ⟨rfl, hb1, k1⟩
               have b2 := k1.heap b1 (show ¬ At1 b w.heap.size by unfold At1; omega)
               have c2 := k1.heap c1 (show ¬ At1 b (w.heap.size + 1) by unfold At1; omega)
               have x1 := Lib.cell_of_heap b2; have y1 := Lib.cell_of_heap c2; have z1 := Lib.frozen_of_heap b2; have u1 := Lib.frozen_of_heap c2)
  have K1 : Keeps (At1 b) w w1 := (((Keeps.refl _ _).alloc _).alloc _).trans k1
  have hE1 : Env w1 := hE.keeps K1 fun k e => by unfold At1 at e; omega
  clear hW b1 c1
  have b1 := b2; have c1 := c2; clear b2 c2
  cases h : Off.number r1 with
  | none =>
    go_wp2_with (go_at_call 107; refine (number_bad b r1 _ hE1 hb1 h10 (by omega) h).mono ?_; rintro e w9 ⟨rfl, k9⟩)
    exact ⟨rfl, EvPost.bad (hR1.out.trans (bind_none h)) (K1.trans k9)⟩
  | some p =>
    obtain ⟨n, r2⟩ := p
    have hR2 := Lib.hid (hR1.out.trans (bind_eq h))
    have hl2 := number_rest h
    go_wp2_with (go_at_call 107; refine (number_ok b r1 r2 n _ hE1 hb1 h10 (by omega) h).mono ?_; rintro e w2 ⟨rfl, hb2, k2, _⟩
                 have b2 := k2.heap b1 (by unfold At1; omega)
                 have c2 := k2.heap c1 (by unfold At1; omega)
                 have x2 := Lib.cell_of_heap b2; have y2 := Lib.cell_of_heap c2; have z2 := Lib.frozen_of_heap b2; have u2 := Lib.frozen_of_heap c2; clear x1 y1 z1 u1)
    have K2 : Keeps (At1 b) w w2 := K1.trans k2
    have hE2 : Env w2 := hE.keeps K2 fun k e => by unfold At1 at e; omega
    clear h
    have hR3 : Off.eventOf Off.sDrop n r2 = some (⟨5, n, 0, 0, false, .z⟩, r2) := rfl
    have b9 := heap_fill14 (heap_set_ne (heap_set_ne b2 (j := 1) (show w.heap.size ≠ w.heap.size + 1 by omega) (.int .i64 n)) (j := 0) (show w.heap.size ≠ w.heap.size + 1 by omega) (.int .i64 5)) (.int .i64 5) (.int .i64 n) (.int .i64 0) (.int .i64 0) (.bool false) (.int .i64 0) (.int .i64 0) (.int .i64 0) (.int .i64 0) (.int .i64 0) (.string ⟨#[]⟩) (.bool false) (.int .i64 0) (.int .i64 0)
    refine bodyPost_ret (res_ev b9 rfl) rfl (EvPost.good (hR2.out.trans hR3) rfl (Keeps.fill14 (Keeps.setNew (Keeps.setNew K2 (by omega) _) (by omega) _) (Nat.le_refl _) _ _ _ _ _ _ _ _ _ _ _ _ _ _) (Scan.fill14 (Scan.other (Scan.other hb2 (by omega) _) (by omega) _) hne0 _ _ _ _ _ _ _ _ _ _ _ _ _ _))

end Go.Proofs.YtkpenijilnagjaaGreatDoor
