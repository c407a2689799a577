/- The scanner's command, branch by branch. -/
import Derived.Test.YtkpenijilnagjaaGreatDoorCmd
namespace Go.Proofs.YtkpenijilnagjaaGreatDoor
open Go.RowKit

set_option maxRecDepth 100000 in
set_option maxHeartbeats 2000000 in
theorem command_split (b : Nat) (s : List UInt8) (w : World) (hE : Env w) (hb : Scan b s w) (h10 : 10 ≤ b) (hs : s.length < 4294967281) (hw : Off.upto 32 s = Off.sSplit) :
    Calls Tryz.prog 108 #[.pointer (some ⟨b, 0, none⟩)] w (CmdPost b w (Off.command s)) := by
  have hlt := hb.lt
  have hz := hE.size
  have hne0 : ¬ b = w.heap.size := by omega
  have hne1 : ¬ b = w.heap.size + 1 := by omega
  have hr0 := behind_le 32 s
  have hR1 : Hid (Off.command s = Off.commandOf Off.sSplit (Off.behind 32 s)) := by
    show Off.commandOf (Off.upto 32 s) (Off.behind 32 s) = _; rw [hw]
  obtain ⟨b1, c1⟩ := two_boxes w (.cells #[.int .i64 0, .int .i64 0, .int .i64 0, .int .i64 0, .int .i64 0, .string ⟨#[]⟩, .bool false, .int .i64 0, .int .i64 0] 77) (.cells #[.int .i64 0, .int .i64 0, .int .i64 0, .int .i64 0, .int .i64 0, .string ⟨#[]⟩, .bool false, .int .i64 0, .int .i64 0] 77)
  have hW := word_any b s _ ((hE.alloc _).alloc _) ((hb.alloc (.cells #[.int .i64 0, .int .i64 0, .int .i64 0, .int .i64 0, .int .i64 0, .string ⟨#[]⟩, .bool false, .int .i64 0, .int .i64 0] 77)).alloc (.cells #[.int .i64 0, .int .i64 0, .int .i64 0, .int .i64 0, .int .i64 0, .string ⟨#[]⟩, .bool false, .int .i64 0, .int .i64 0] 77)) hs
  rw [hw] at hW
  unfold Off.sSplit at hW
  clear hw
  generalize Off.behind 32 s = r1 at hR1 hr0 hW
  go_enter Tryz.func108, Tryz.ntmps108
  go_wp2_with (go_at_call 106; refine hW.mono ?_; rintro e w1 ⟨rfl, hb1, k1⟩
               have b2 := k1.heap b1 (show ¬ At1 b w.heap.size by unfold At1; omega)
               have c2 := k1.heap c1 (show ¬ At1 b (w.heap.size + 1) by unfold At1; omega)
               have x1 := Lib.cell_of_heap b2; have y1 := Lib.cell_of_heap c2; have z1 := Lib.frozen_of_heap b2; have u1 := Lib.frozen_of_heap c2)
  have K1 : Keeps (At1 b) w w1 := (((Keeps.refl _ _).alloc _).alloc _).trans k1
  have hE1 : Env w1 := hE.keeps K1 fun k e => by unfold At1 at e; omega
  clear hW b1 c1
  have b1 := b2; have c1 := c2; clear b2 c2
  cases h : Off.block r1 with
  | none =>
    go_wp2_with (go_at_call 157; refine (block_bad b r1 _ hE1 hb1 h10 (by omega) h).mono ?_; rintro e w9 ⟨rfl, k9⟩)
    exact ⟨rfl, CmdPost.bad (hR1.out.trans (bind_none h)) (Keeps.trans K1 k9)⟩
  | some p =>
    obtain ⟨⟨R1, N1⟩, r2⟩ := p
    have hR2 := Lib.hid (hR1.out.trans (bind_eq h))
    have hl2 := block_rest h
    go_wp2_with (go_at_call 157; refine (block_ok b r1 r2 ⟨R1, N1⟩ _ hE1 hb1 h10 (by omega) h).mono ?_; rintro e w2 ⟨rfl, hb2, k2⟩
                 have b2 : w2.heap[w.heap.size]? = some (.cells #[.int .i64 0, .int .i64 0, .int .i64 0, .int .i64 0, .int .i64 0, .string ⟨#[]⟩, .bool false, .int .i64 0, .int .i64 0] 77 (0, 0)) := k2.heap b1 (by unfold At1; omega)
                 have c2 : w2.heap[w.heap.size + 1]? = some (.cells #[.int .i64 0, .int .i64 0, .int .i64 0, .int .i64 0, .int .i64 0, .string ⟨#[]⟩, .bool false, .int .i64 0, .int .i64 0] 77 (0, 0)) := k2.heap (by simpa using c1) (by unfold At1; omega)
                 have x2 := Lib.cell_of_heap b2
                 have y2 := Lib.cell_of_heap c2
                 have z2 := Lib.frozen_of_heap b2
                 have u2 := Lib.frozen_of_heap c2)
    have K2 : Keeps (At1 b) w w2 := Keeps.trans K1 k2
    have hE2 : Env w2 := hE.keeps K2 fun k e => by unfold At1 at e; omega
    clear h
    cases h : Off.number r2 with
    | none =>
      go_wp2_with (go_at_call 107; refine (number_bad b r2 _ (Env.setNew (Env.setNew (Env.setNew hE2 (by omega) _) (by omega) _) (by omega) _) (Scan.other (Scan.other (Scan.other hb2 (by omega) _) (by omega) _) (by omega) _) h10 (by omega) h).mono ?_; rintro e w9 ⟨rfl, k9⟩)
      exact ⟨rfl, CmdPost.bad (hR2.out.trans (bind_none h)) (Keeps.trans (Keeps.setNew (Keeps.setNew (Keeps.setNew K2 (by omega) _) (by omega) _) (by omega) _) k9)⟩
    | some p =>
      obtain ⟨p, r3⟩ := p
      have hR3 := Lib.hid (hR2.out.trans (bind_eq h))
      have hl3 := number_rest h
      go_wp2_with (go_at_call 107; refine (number_ok b r2 r3 p _ (Env.setNew (Env.setNew (Env.setNew hE2 (by omega) _) (by omega) _) (by omega) _) (Scan.other (Scan.other (Scan.other hb2 (by omega) _) (by omega) _) (by omega) _) h10 (by omega) h).mono ?_; rintro e w3 ⟨rfl, hb3, k3, _⟩
                   have b3 : w3.heap[w.heap.size]? = some (.cells #[.int .i64 0, .int .i64 0, .int .i64 0, .int .i64 0, .int .i64 0, .string ⟨#[]⟩, .bool false, .int .i64 0, .int .i64 0] 77 (0, 0)) := k3.heap (heap_set_ne (heap_set_ne (heap_set_ne b2 (j := 0) (show w.heap.size ≠ w.heap.size + 1 by omega) (.int .i64 4)) (j := 1) (show w.heap.size ≠ w.heap.size + 1 by omega) (.int .i64 R1)) (j := 2) (show w.heap.size ≠ w.heap.size + 1 by omega) (.int .i64 N1)) (by unfold At1; omega)
                   have c3 : w3.heap[w.heap.size + 1]? = some (.cells #[.int .i64 4, .int .i64 R1, .int .i64 N1, .int .i64 0, .int .i64 0, .string ⟨#[]⟩, .bool false, .int .i64 0, .int .i64 0] 77 (0, 0)) := k3.heap (by simpa using (heap_set (heap_set (heap_set c2 0 (.int .i64 4)) 1 (.int .i64 R1)) 2 (.int .i64 N1))) (by unfold At1; omega)
                   have x3 := Lib.cell_of_heap b3
                   have y3 := Lib.cell_of_heap c3
                   have z3 := Lib.frozen_of_heap b3
                   have u3 := Lib.frozen_of_heap c3)
      have K3 : Keeps (At1 b) w w3 := Keeps.trans (Keeps.setNew (Keeps.setNew (Keeps.setNew K2 (by omega) _) (by omega) _) (by omega) _) k3
      have hE3 : Env w3 := hE.keeps K3 fun k e => by unfold At1 at e; omega
      clear h x2 y2 z2 u2
      have b9 := heap_fill9 (heap_set_ne b3 (j := 3) (show w.heap.size ≠ w.heap.size + 1 by omega) (.int .i64 p)) (.int .i64 4) (.int .i64 R1) (.int .i64 N1) (.int .i64 p) (.int .i64 0) (.string ⟨#[]⟩) (.bool false) (.int .i64 0) (.int .i64 0)
      refine bodyPost_ret (res_cmd b9 rfl) rfl (CmdPost.good hR3.out rfl (Keeps.fill9 (Keeps.setNew K3 (by omega) _) (Nat.le_refl _) _ _ _ _ _ _ _ _ _) (Scan.fill9 (Scan.other hb3 (by omega) _) hne0 _ _ _ _ _ _ _ _ _))

set_option maxRecDepth 100000 in
set_option maxHeartbeats 2000000 in
theorem command_move (b : Nat) (s : List UInt8) (w : World) (hE : Env w) (hb : Scan b s w) (h10 : 10 ≤ b) (hs : s.length < 4294967281) (hw : Off.upto 32 s = Off.sMove) :
    Calls Tryz.prog 108 #[.pointer (some ⟨b, 0, none⟩)] w (CmdPost b w (Off.command s)) := by
  have hlt := hb.lt
  have hz := hE.size
  have hne0 : ¬ b = w.heap.size := by omega
  have hne1 : ¬ b = w.heap.size + 1 := by omega
  have hr0 := behind_le 32 s
  have hR1 : Hid (Off.command s = Off.commandOf Off.sMove (Off.behind 32 s)) := by
    show Off.commandOf (Off.upto 32 s) (Off.behind 32 s) = _; rw [hw]
  obtain ⟨b1, c1⟩ := two_boxes w (.cells #[.int .i64 0, .int .i64 0, .int .i64 0, .int .i64 0, .int .i64 0, .string ⟨#[]⟩, .bool false, .int .i64 0, .int .i64 0] 77) (.cells #[.int .i64 0, .int .i64 0, .int .i64 0, .int .i64 0, .int .i64 0, .string ⟨#[]⟩, .bool false, .int .i64 0, .int .i64 0] 77)
  have hW := word_any b s _ ((hE.alloc _).alloc _) ((hb.alloc (.cells #[.int .i64 0, .int .i64 0, .int .i64 0, .int .i64 0, .int .i64 0, .string ⟨#[]⟩, .bool false, .int .i64 0, .int .i64 0] 77)).alloc (.cells #[.int .i64 0, .int .i64 0, .int .i64 0, .int .i64 0, .int .i64 0, .string ⟨#[]⟩, .bool false, .int .i64 0, .int .i64 0] 77)) hs
  rw [hw] at hW
  unfold Off.sMove at hW
  clear hw
  generalize Off.behind 32 s = r1 at hR1 hr0 hW
  go_enter Tryz.func108, Tryz.ntmps108
  go_wp2_with (go_at_call 106; refine hW.mono ?_; rintro e w1 ⟨rfl, hb1, k1⟩
               have b2 := k1.heap b1 (show ¬ At1 b w.heap.size by unfold At1; omega)
               have c2 := k1.heap c1 (show ¬ At1 b (w.heap.size + 1) by unfold At1; omega)
               have x1 := Lib.cell_of_heap b2; have y1 := Lib.cell_of_heap c2; have z1 := Lib.frozen_of_heap b2; have u1 := Lib.frozen_of_heap c2)
  have K1 : Keeps (At1 b) w w1 := (((Keeps.refl _ _).alloc _).alloc _).trans k1
  have hE1 : Env w1 := hE.keeps K1 fun k e => by unfold At1 at e; omega
  clear hW b1 c1
  have b1 := b2; have c1 := c2; clear b2 c2
  cases h : Off.scIn r1 with
  | none =>
    go_wp2_with (go_at_call 156; refine (in_bad b r1 _ hE1 hb1 (by omega) h).mono ?_; rintro e w9 ⟨rfl, k9⟩)
    exact ⟨rfl, CmdPost.bad (hR1.out.trans (bind_none h)) (Keeps.trans K1 k9)⟩
  | some p =>
    obtain ⟨f, r2⟩ := p
    have hR2 := Lib.hid (hR1.out.trans (bind_eq h))
    have hl2 := in_rest h
    go_wp2_with (go_at_call 156; refine (in_ok b r1 r2 f _ hE1 hb1 (by omega) h).mono ?_; rintro e w2 ⟨rfl, hb2, k2⟩
                 have b2 : w2.heap[w.heap.size]? = some (.cells #[.int .i64 0, .int .i64 0, .int .i64 0, .int .i64 0, .int .i64 0, .string ⟨#[]⟩, .bool false, .int .i64 0, .int .i64 0] 77 (0, 0)) := k2.heap b1 (by unfold At1; omega)
                 have c2 : w2.heap[w.heap.size + 1]? = some (.cells #[.int .i64 0, .int .i64 0, .int .i64 0, .int .i64 0, .int .i64 0, .string ⟨#[]⟩, .bool false, .int .i64 0, .int .i64 0] 77 (0, 0)) := k2.heap (by simpa using c1) (by unfold At1; omega)
                 have x2 := Lib.cell_of_heap b2
                 have y2 := Lib.cell_of_heap c2
                 have z2 := Lib.frozen_of_heap b2
                 have u2 := Lib.frozen_of_heap c2)
    have K2 : Keeps (At1 b) w w2 := Keeps.trans K1 k2
    have hE2 : Env w2 := hE.keeps K2 fun k e => by unfold At1 at e; omega
    clear h
    cases h : Off.block r2 with
    | none =>
      go_wp2_with (go_at_call 157; refine (block_bad b r2 _ (Env.setNew (Env.setNew hE2 (by omega) _) (by omega) _) (Scan.other (Scan.other hb2 (by omega) _) (by omega) _) h10 (by omega) h).mono ?_; rintro e w9 ⟨rfl, k9⟩)
      exact ⟨rfl, CmdPost.bad (hR2.out.trans (bind_none h)) (Keeps.trans (Keeps.setNew (Keeps.setNew K2 (by omega) _) (by omega) _) k9)⟩
    | some p =>
      obtain ⟨⟨R1, N1⟩, r3⟩ := p
      have hR3 := Lib.hid (hR2.out.trans (bind_eq h))
      have hl3 := block_rest h
      go_wp2_with (go_at_call 157; refine (block_ok b r2 r3 ⟨R1, N1⟩ _ (Env.setNew (Env.setNew hE2 (by omega) _) (by omega) _) (Scan.other (Scan.other hb2 (by omega) _) (by omega) _) h10 (by omega) h).mono ?_; rintro e w3 ⟨rfl, hb3, k3⟩
                   have b3 : w3.heap[w.heap.size]? = some (.cells #[.int .i64 0, .int .i64 0, .int .i64 0, .int .i64 0, .int .i64 0, .string ⟨#[]⟩, .bool false, .int .i64 0, .int .i64 0] 77 (0, 0)) := k3.heap (heap_set_ne (heap_set_ne b2 (j := 0) (show w.heap.size ≠ w.heap.size + 1 by omega) (.int .i64 13)) (j := 6) (show w.heap.size ≠ w.heap.size + 1 by omega) (.bool f)) (by unfold At1; omega)
                   have c3 : w3.heap[w.heap.size + 1]? = some (.cells #[.int .i64 13, .int .i64 0, .int .i64 0, .int .i64 0, .int .i64 0, .string ⟨#[]⟩, .bool f, .int .i64 0, .int .i64 0] 77 (0, 0)) := k3.heap (by simpa using (heap_set (heap_set c2 0 (.int .i64 13)) 6 (.bool f))) (by unfold At1; omega)
                   have x3 := Lib.cell_of_heap b3
                   have y3 := Lib.cell_of_heap c3
                   have z3 := Lib.frozen_of_heap b3
                   have u3 := Lib.frozen_of_heap c3)
      have K3 : Keeps (At1 b) w w3 := Keeps.trans (Keeps.setNew (Keeps.setNew K2 (by omega) _) (by omega) _) k3
      have hE3 : Env w3 := hE.keeps K3 fun k e => by unfold At1 at e; omega
      clear h x2 y2 z2 u2
      cases h : Off.block r3 with
      | none =>
        go_wp2_with (go_at_call 157; refine (block_bad b r3 _ (Env.setNew (Env.setNew hE3 (by omega) _) (by omega) _) (Scan.other (Scan.other hb3 (by omega) _) (by omega) _) h10 (by omega) h).mono ?_; rintro e w9 ⟨rfl, k9⟩)
        exact ⟨rfl, CmdPost.bad (hR3.out.trans (bind_none h)) (Keeps.trans (Keeps.setNew (Keeps.setNew K3 (by omega) _) (by omega) _) k9)⟩
      | some p =>
        obtain ⟨⟨R2, N2⟩, r4⟩ := p
        have hR4 := Lib.hid (hR3.out.trans (bind_eq h))
        have hl4 := block_rest h
        go_wp2_with (go_at_call 157; refine (block_ok b r3 r4 ⟨R2, N2⟩ _ (Env.setNew (Env.setNew hE3 (by omega) _) (by omega) _) (Scan.other (Scan.other hb3 (by omega) _) (by omega) _) h10 (by omega) h).mono ?_; rintro e w4 ⟨rfl, hb4, k4⟩
                     have b4 : w4.heap[w.heap.size]? = some (.cells #[.int .i64 0, .int .i64 0, .int .i64 0, .int .i64 0, .int .i64 0, .string ⟨#[]⟩, .bool false, .int .i64 0, .int .i64 0] 77 (0, 0)) := k4.heap (heap_set_ne (heap_set_ne b3 (j := 1) (show w.heap.size ≠ w.heap.size + 1 by omega) (.int .i64 R1)) (j := 2) (show w.heap.size ≠ w.heap.size + 1 by omega) (.int .i64 N1)) (by unfold At1; omega)
                     have c4 : w4.heap[w.heap.size + 1]? = some (.cells #[.int .i64 13, .int .i64 R1, .int .i64 N1, .int .i64 0, .int .i64 0, .string ⟨#[]⟩, .bool f, .int .i64 0, .int .i64 0] 77 (0, 0)) := k4.heap (by simpa using (heap_set (heap_set c3 1 (.int .i64 R1)) 2 (.int .i64 N1))) (by unfold At1; omega)
                     have x4 := Lib.cell_of_heap b4
                     have y4 := Lib.cell_of_heap c4
                     have z4 := Lib.frozen_of_heap b4
                     have u4 := Lib.frozen_of_heap c4)
        have K4 : Keeps (At1 b) w w4 := Keeps.trans (Keeps.setNew (Keeps.setNew K3 (by omega) _) (by omega) _) k4
        have hE4 : Env w4 := hE.keeps K4 fun k e => by unfold At1 at e; omega
        clear h x3 y3 z3 u3
        have b9 := heap_fill9 (heap_set_ne (heap_set_ne b4 (j := 7) (show w.heap.size ≠ w.heap.size + 1 by omega) (.int .i64 R2)) (j := 8) (show w.heap.size ≠ w.heap.size + 1 by omega) (.int .i64 N2)) (.int .i64 13) (.int .i64 R1) (.int .i64 N1) (.int .i64 0) (.int .i64 0) (.string ⟨#[]⟩) (.bool f) (.int .i64 R2) (.int .i64 N2)
        refine bodyPost_ret (res_cmd b9 rfl) rfl (CmdPost.good hR4.out rfl (Keeps.fill9 (Keeps.setNew (Keeps.setNew K4 (by omega) _) (by omega) _) (Nat.le_refl _) _ _ _ _ _ _ _ _ _) (Scan.fill9 (Scan.other (Scan.other hb4 (by omega) _) (by omega) _) hne0 _ _ _ _ _ _ _ _ _))

set_option maxRecDepth 100000 in
set_option maxHeartbeats 2000000 in
theorem command_place (b : Nat) (s : List UInt8) (w : World) (hE : Env w) (hb : Scan b s w) (h10 : 10 ≤ b) (hs : s.length < 4294967281) (hw : Off.upto 32 s = Off.sPlace) :
    Calls Tryz.prog 108 #[.pointer (some ⟨b, 0, none⟩)] w (CmdPost b w (Off.command s)) := by
  have hlt := hb.lt
  have hz := hE.size
  have hne0 : ¬ b = w.heap.size := by omega
  have hne1 : ¬ b = w.heap.size + 1 := by omega
  have hr0 := behind_le 32 s
  have hR1 : Hid (Off.command s = Off.commandOf Off.sPlace (Off.behind 32 s)) := by
    show Off.commandOf (Off.upto 32 s) (Off.behind 32 s) = _; rw [hw]
  obtain ⟨b1, c1⟩ := two_boxes w (.cells #[.int .i64 0, .int .i64 0, .int .i64 0, .int .i64 0, .int .i64 0, .string ⟨#[]⟩, .bool false, .int .i64 0, .int .i64 0] 77) (.cells #[.int .i64 0, .int .i64 0, .int .i64 0, .int .i64 0, .int .i64 0, .string ⟨#[]⟩, .bool false, .int .i64 0, .int .i64 0] 77)
  have hW := word_any b s _ ((hE.alloc _).alloc _) ((hb.alloc (.cells #[.int .i64 0, .int .i64 0, .int .i64 0, .int .i64 0, .int .i64 0, .string ⟨#[]⟩, .bool false, .int .i64 0, .int .i64 0] 77)).alloc (.cells #[.int .i64 0, .int .i64 0, .int .i64 0, .int .i64 0, .int .i64 0, .string ⟨#[]⟩, .bool false, .int .i64 0, .int .i64 0] 77)) hs
  rw [hw] at hW
  unfold Off.sPlace at hW
  clear hw
  generalize Off.behind 32 s = r1 at hR1 hr0 hW
  go_enter Tryz.func108, Tryz.ntmps108
  go_wp2_with (go_at_call 106; refine hW.mono ?_; rintro e w1 ⟨rfl, hb1, k1⟩
               have b2 := k1.heap b1 (show ¬ At1 b w.heap.size by unfold At1; omega)
               have c2 := k1.heap c1 (show ¬ At1 b (w.heap.size + 1) by unfold At1; omega)
               have x1 := Lib.cell_of_heap b2; have y1 := Lib.cell_of_heap c2; have z1 := Lib.frozen_of_heap b2; have u1 := Lib.frozen_of_heap c2)
  have K1 : Keeps (At1 b) w w1 := (((Keeps.refl _ _).alloc _).alloc _).trans k1
  have hE1 : Env w1 := hE.keeps K1 fun k e => by unfold At1 at e; omega
  clear hW b1 c1
  have b1 := b2; have c1 := c2; clear b2 c2
  cases h : Off.block r1 with
  | none =>
    go_wp2_with (go_at_call 157; refine (block_bad b r1 _ hE1 hb1 h10 (by omega) h).mono ?_; rintro e w9 ⟨rfl, k9⟩)
    exact ⟨rfl, CmdPost.bad (hR1.out.trans (bind_none h)) (Keeps.trans K1 k9)⟩
  | some p =>
    obtain ⟨⟨R1, N1⟩, r2⟩ := p
    have hR2 := Lib.hid (hR1.out.trans (bind_eq h))
    have hl2 := block_rest h
    go_wp2_with (go_at_call 157; refine (block_ok b r1 r2 ⟨R1, N1⟩ _ hE1 hb1 h10 (by omega) h).mono ?_; rintro e w2 ⟨rfl, hb2, k2⟩
                 have b2 : w2.heap[w.heap.size]? = some (.cells #[.int .i64 0, .int .i64 0, .int .i64 0, .int .i64 0, .int .i64 0, .string ⟨#[]⟩, .bool false, .int .i64 0, .int .i64 0] 77 (0, 0)) := k2.heap b1 (by unfold At1; omega)
                 have c2 : w2.heap[w.heap.size + 1]? = some (.cells #[.int .i64 0, .int .i64 0, .int .i64 0, .int .i64 0, .int .i64 0, .string ⟨#[]⟩, .bool false, .int .i64 0, .int .i64 0] 77 (0, 0)) := k2.heap (by simpa using c1) (by unfold At1; omega)
                 have x2 := Lib.cell_of_heap b2
                 have y2 := Lib.cell_of_heap c2
                 have z2 := Lib.frozen_of_heap b2
                 have u2 := Lib.frozen_of_heap c2)
    have K2 : Keeps (At1 b) w w2 := Keeps.trans K1 k2
    have hE2 : Env w2 := hE.keeps K2 fun k e => by unfold At1 at e; omega
    clear h
    cases h : Off.block r2 with
    | none =>
      go_wp2_with (go_at_call 157; refine (block_bad b r2 _ (Env.setNew (Env.setNew (Env.setNew hE2 (by omega) _) (by omega) _) (by omega) _) (Scan.other (Scan.other (Scan.other hb2 (by omega) _) (by omega) _) (by omega) _) h10 (by omega) h).mono ?_; rintro e w9 ⟨rfl, k9⟩)
      exact ⟨rfl, CmdPost.bad (hR2.out.trans (bind_none h)) (Keeps.trans (Keeps.setNew (Keeps.setNew (Keeps.setNew K2 (by omega) _) (by omega) _) (by omega) _) k9)⟩
    | some p =>
      obtain ⟨⟨R2, N2⟩, r3⟩ := p
      have hR3 := Lib.hid (hR2.out.trans (bind_eq h))
      have hl3 := block_rest h
      go_wp2_with (go_at_call 157; refine (block_ok b r2 r3 ⟨R2, N2⟩ _ (Env.setNew (Env.setNew (Env.setNew hE2 (by omega) _) (by omega) _) (by omega) _) (Scan.other (Scan.other (Scan.other hb2 (by omega) _) (by omega) _) (by omega) _) h10 (by omega) h).mono ?_; rintro e w3 ⟨rfl, hb3, k3⟩
                   have b3 : w3.heap[w.heap.size]? = some (.cells #[.int .i64 0, .int .i64 0, .int .i64 0, .int .i64 0, .int .i64 0, .string ⟨#[]⟩, .bool false, .int .i64 0, .int .i64 0] 77 (0, 0)) := k3.heap (heap_set_ne (heap_set_ne (heap_set_ne b2 (j := 0) (show w.heap.size ≠ w.heap.size + 1 by omega) (.int .i64 14)) (j := 1) (show w.heap.size ≠ w.heap.size + 1 by omega) (.int .i64 R1)) (j := 2) (show w.heap.size ≠ w.heap.size + 1 by omega) (.int .i64 N1)) (by unfold At1; omega)
                   have c3 : w3.heap[w.heap.size + 1]? = some (.cells #[.int .i64 14, .int .i64 R1, .int .i64 N1, .int .i64 0, .int .i64 0, .string ⟨#[]⟩, .bool false, .int .i64 0, .int .i64 0] 77 (0, 0)) := k3.heap (by simpa using (heap_set (heap_set (heap_set c2 0 (.int .i64 14)) 1 (.int .i64 R1)) 2 (.int .i64 N1))) (by unfold At1; omega)
                   have x3 := Lib.cell_of_heap b3
                   have y3 := Lib.cell_of_heap c3
                   have z3 := Lib.frozen_of_heap b3
                   have u3 := Lib.frozen_of_heap c3)
      have K3 : Keeps (At1 b) w w3 := Keeps.trans (Keeps.setNew (Keeps.setNew (Keeps.setNew K2 (by omega) _) (by omega) _) (by omega) _) k3
      have hE3 : Env w3 := hE.keeps K3 fun k e => by unfold At1 at e; omega
      clear h x2 y2 z2 u2
      cases h : Off.text r3 with
      | none =>
        go_wp2_with (go_at_call 158; refine (text_any b r3 _ (Scan.other (Scan.other hb3 (by omega) _) (by omega) _) (by omega)).mono ?_; rintro e w9 hp
                     unfold TextPost at hp; rw [h] at hp; obtain ⟨k9, rfl⟩ := hp)
        exact ⟨rfl, CmdPost.bad (hR3.out.trans (bind_none h)) (Keeps.trans (Keeps.setNew (Keeps.setNew K3 (by omega) _) (by omega) _) k9)⟩
      | some p =>
        obtain ⟨t, r4⟩ := p
        have hR4 := Lib.hid (hR3.out.trans (bind_eq h))
        go_wp2_with (go_at_call 158; refine (text_any b r3 _ (Scan.other (Scan.other hb3 (by omega) _) (by omega) _) (by omega)).mono ?_; rintro e w4 hp
                     unfold TextPost at hp; rw [h] at hp; obtain ⟨k4, rfl, hb4⟩ := hp
                     have b4 : w4.heap[w.heap.size]? = some (.cells #[.int .i64 0, .int .i64 0, .int .i64 0, .int .i64 0, .int .i64 0, .string ⟨#[]⟩, .bool false, .int .i64 0, .int .i64 0] 77 (0, 0)) := k4.heap (heap_set_ne (heap_set_ne b3 (j := 7) (show w.heap.size ≠ w.heap.size + 1 by omega) (.int .i64 R2)) (j := 8) (show w.heap.size ≠ w.heap.size + 1 by omega) (.int .i64 N2)) (by unfold At1; omega)
                     have c4 : w4.heap[w.heap.size + 1]? = some (.cells #[.int .i64 14, .int .i64 R1, .int .i64 N1, .int .i64 0, .int .i64 0, .string ⟨#[]⟩, .bool false, .int .i64 R2, .int .i64 N2] 77 (0, 0)) := k4.heap (by simpa using (heap_set (heap_set c3 7 (.int .i64 R2)) 8 (.int .i64 N2))) (by unfold At1; omega)
                     have x4 := Lib.cell_of_heap b4
                     have y4 := Lib.cell_of_heap c4
                     have z4 := Lib.frozen_of_heap b4
                     have u4 := Lib.frozen_of_heap c4)
        have K4 : Keeps (At1 b) w w4 := Keeps.trans (Keeps.setNew (Keeps.setNew K3 (by omega) _) (by omega) _) k4
        have hE4 : Env w4 := hE.keeps K4 fun k e => by unfold At1 at e; omega
        clear h x3 y3 z3 u3
        have b9 := heap_fill9 (heap_set_ne b4 (j := 5) (show w.heap.size ≠ w.heap.size + 1 by omega) (.string ⟨t.toArray⟩)) (.int .i64 14) (.int .i64 R1) (.int .i64 N1) (.int .i64 0) (.int .i64 0) (.string ⟨t.toArray⟩) (.bool false) (.int .i64 R2) (.int .i64 N2)
        refine bodyPost_ret (res_cmd b9 rfl) rfl (CmdPost.good hR4.out rfl (Keeps.fill9 (Keeps.setNew K4 (by omega) _) (Nat.le_refl _) _ _ _ _ _ _ _ _ _) (Scan.fill9 (Scan.other hb4 (by omega) _) hne0 _ _ _ _ _ _ _ _ _))

end Go.Proofs.YtkpenijilnagjaaGreatDoor
