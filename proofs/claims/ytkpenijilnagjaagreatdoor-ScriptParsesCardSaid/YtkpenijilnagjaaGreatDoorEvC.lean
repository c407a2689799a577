/- The scanner's event, word by word. -/
import Derived.Test.YtkpenijilnagjaaGreatDoorEvBase
namespace Go.Proofs.YtkpenijilnagjaaGreatDoor
open Go.RowKit

set_option maxRecDepth 100000 in
set_option maxHeartbeats 4000000 in
theorem event_do (b : Nat) (s : List UInt8) (w : World) (hE : Env w) (hb : Scan b s w) (h10 : 10 ≤ b) (hs : s.length < 4294967281) (hw : Off.upto 32 s = Off.sDo) :
    Calls Tryz.prog 68 #[.pointer (some ⟨b, 0, none⟩)] w (EvPost b w (Off.event s)) := by
  have hlt := hb.lt
  have hz := hE.size
  have hne0 : ¬ b = w.heap.size := by omega
  have hne1 : ¬ b = w.heap.size + 1 := by omega
  have hr0 := behind_le 32 s
  obtain ⟨b1, c1⟩ := two_boxes w (.cells #[.int .i64 0, .int .i64 0, .int .i64 0, .int .i64 0, .bool false, .int .i64 0, .int .i64 0, .int .i64 0, .int .i64 0, .int .i64 0, .string ⟨#[]⟩, .bool false, .int .i64 0, .int .i64 0] 79) (.cells #[.int .i64 0, .int .i64 0, .int .i64 0, .int .i64 0, .bool false, .int .i64 0, .int .i64 0, .int .i64 0, .int .i64 0, .int .i64 0, .string ⟨#[]⟩, .bool false, .int .i64 0, .int .i64 0] 79)
  have hW := word_any b s _ ((hE.alloc _).alloc _) ((hb.alloc (.cells #[.int .i64 0, .int .i64 0, .int .i64 0, .int .i64 0, .bool false, .int .i64 0, .int .i64 0, .int .i64 0, .int .i64 0, .int .i64 0, .string ⟨#[]⟩, .bool false, .int .i64 0, .int .i64 0] 79)).alloc (.cells #[.int .i64 0, .int .i64 0, .int .i64 0, .int .i64 0, .bool false, .int .i64 0, .int .i64 0, .int .i64 0, .int .i64 0, .int .i64 0, .string ⟨#[]⟩, .bool false, .int .i64 0, .int .i64 0] 79)) hs
  have hR1 : Hid (Off.event s = (Off.number (Off.behind 32 s)).bind fun (n, r) => Off.eventOf Off.sDo n r) := by
    show ((Off.number (Off.behind 32 s)).bind fun (n, r) => Off.eventOf (Off.upto 32 s) n r) = _; rw [hw]
  rw [hw] at hW
  unfold Off.sDo at hW
  clear hw
  generalize Off.behind 32 s = r1 at hR1 hr0 hW
  go_enter Tryz.func68, Tryz.ntmps68
  go_wp2_with (go_at_call 106; refine hW.mono ?_; rintro e w1 ⟨rfl, hb1, k1⟩
               have b2 := k1.heap b1 (show ¬ At1 b w.heap.size by unfold At1; omega)
               have c2 := k1.heap c1 (show ¬ At1 b (w.heap.size + 1) by unfold At1; omega)
               have x1 := Lib.cell_of_heap b2; have y1 := Lib.cell_of_heap c2; have z1 := Lib.frozen_of_heap b2; have u1 := Lib.frozen_of_heap c2)
  have K1 : Keeps (At1 b) w w1 := (((Keeps.refl _ _).alloc _).alloc _).trans k1
  have hE1 : Env w1 := hE.keeps K1 fun k e => by unfold At1 at e; omega
  clear hW b1 c1
  have b1 := b2; have c1 := c2; clear b2 c2
  cases h : Off.number r1 with
  | none =>
    go_wp2_with (go_at_call 107; refine (number_bad b r1 _ hE1 hb1 h10 (by omega) h).mono ?_; rintro e w9 ⟨rfl, k9⟩)
    exact ⟨rfl, EvPost.bad (hR1.out.trans (bind_none h)) (K1.trans k9)⟩
  | some p =>
    obtain ⟨n, r2⟩ := p
    have hR2 := Lib.hid (hR1.out.trans (bind_eq h))
    have hl2 := number_rest h
    go_wp2_with (go_at_call 107; refine (number_ok b r1 r2 n _ hE1 hb1 h10 (by omega) h).mono ?_; rintro e w2 ⟨rfl, hb2, k2, _⟩
                 have b2 := k2.heap b1 (by unfold At1; omega)
                 have c2 := k2.heap c1 (by unfold At1; omega)
                 have x2 := Lib.cell_of_heap b2; have y2 := Lib.cell_of_heap c2; have z2 := Lib.frozen_of_heap b2; have u2 := Lib.frozen_of_heap c2; clear x1 y1 z1 u1)
    have K2 : Keeps (At1 b) w w2 := K1.trans k2
    have hE2 : Env w2 := hE.keeps K2 fun k e => by unfold At1 at e; omega
    clear h
    have s2a : (w2.setCell ⟨w.heap.size + 1, 1, none⟩ (.int .i64 n)).heap[w.heap.size + 1]? = some (.cells #[.int .i64 0, .int .i64 n, .int .i64 0, .int .i64 0, .bool false, .int .i64 0, .int .i64 0, .int .i64 0, .int .i64 0, .int .i64 0, .string ⟨#[]⟩, .bool false, .int .i64 0, .int .i64 0] 79 (0, 0)) := heap_set c2 1 (.int .i64 n)
    have hR3 : Hid (Off.event s = (Off.command r2).bind fun (c, r) => some (⟨1, n, 0, 0, false, c⟩, r)) := hR2.out.trans rfl
    have b2s := (heap_set_ne b2 (j := 1) (show w.heap.size ≠ w.heap.size + 1 by omega) (.int .i64 n))
    cases h : Off.command r2 with
    | none =>
      go_wp2_with (go_at_call 108; refine (command_any b r2 _ (Env.setNew hE2 (by omega) _) (Scan.other hb2 (by omega) _) h10 (by omega)).mono ?_; rintro e w9 hp
                   unfold CmdPost at hp; rw [h] at hp; obtain ⟨k9, rfl⟩ := hp)
      exact ⟨rfl, EvPost.bad (hR3.out.trans (bind_none h)) (Keeps.trans (Keeps.setNew K2 (by omega) _) k9)⟩
    | some q =>
      obtain ⟨c, r3⟩ := q
      have hR4 := Lib.hid (hR3.out.trans (bind_eq h))
      go_wp2_with (go_at_call 108; refine (command_any b r2 _ (Env.setNew hE2 (by omega) _) (Scan.other hb2 (by omega) _) h10 (by omega)).mono ?_; rintro e w3 hp
                   unfold CmdPost at hp; rw [h] at hp; obtain ⟨k3, rfl, hb3⟩ := hp
                   have b3 := k3.heap b2s (by unfold At1; omega)
                   have c3 := k3.heap s2a (by unfold At1; omega)
                   have x3 := Lib.cell_of_heap b3; have y3 := Lib.cell_of_heap c3; have z3 := Lib.frozen_of_heap b3; have u3 := Lib.frozen_of_heap c3; clear x2 y2 z2 u2)
      have K3 : Keeps (At1 b) w w3 := Keeps.trans (Keeps.setNew K2 (by omega) _) k3
      clear h
      have b9 := heap_fill14 (heap_set_ne (heap_set_ne (heap_set_ne (heap_set_ne (heap_set_ne (heap_set_ne (heap_set_ne (heap_set_ne (heap_set_ne (heap_set_ne b3 (j := 0) (show w.heap.size ≠ w.heap.size + 1 by omega) (.int .i64 1)) (j := 5) (show w.heap.size ≠ w.heap.size + 1 by omega) (.int .i64 c.kind)) (j := 6) (show w.heap.size ≠ w.heap.size + 1 by omega) (.int .i64 c.block.R)) (j := 7) (show w.heap.size ≠ w.heap.size + 1 by omega) (.int .i64 c.block.N)) (j := 8) (show w.heap.size ≠ w.heap.size + 1 by omega) (.int .i64 c.pos)) (j := 9) (show w.heap.size ≠ w.heap.size + 1 by omega) (.int .i64 c.n)) (j := 10) (show w.heap.size ≠ w.heap.size + 1 by omega) (.string ⟨c.text.toArray⟩)) (j := 11) (show w.heap.size ≠ w.heap.size + 1 by omega) (.bool c.flag)) (j := 12) (show w.heap.size ≠ w.heap.size + 1 by omega) (.int .i64 c.other.R)) (j := 13) (show w.heap.size ≠ w.heap.size + 1 by omega) (.int .i64 c.other.N)) (.int .i64 1) (.int .i64 n) (.int .i64 0) (.int .i64 0) (.bool false) (.int .i64 c.kind) (.int .i64 c.block.R) (.int .i64 c.block.N) (.int .i64 c.pos) (.int .i64 c.n) (.string ⟨c.text.toArray⟩) (.bool c.flag) (.int .i64 c.other.R) (.int .i64 c.other.N)
      refine bodyPost_ret (res_ev b9 rfl) rfl (EvPost.good hR4.out rfl (Keeps.fill14 (Keeps.setNew (Keeps.setNew (Keeps.setNew (Keeps.setNew (Keeps.setNew (Keeps.setNew (Keeps.setNew (Keeps.setNew (Keeps.setNew (Keeps.setNew K3 (by omega) _) (by omega) _) (by omega) _) (by omega) _) (by omega) _) (by omega) _) (by omega) _) (by omega) _) (by omega) _) (by omega) _) (Nat.le_refl _) _ _ _ _ _ _ _ _ _ _ _ _ _ _) (Scan.fill14 (Scan.other (Scan.other (Scan.other (Scan.other (Scan.other (Scan.other (Scan.other (Scan.other (Scan.other (Scan.other hb3 (by omega) _) (by omega) _) (by omega) _) (by omega) _) (by omega) _) (by omega) _) (by omega) _) (by omega) _) (by omega) _) (by omega) _) hne0 _ _ _ _ _ _ _ _ _ _ _ _ _ _))

set_option maxRecDepth 100000 in
set_option maxHeartbeats 4000000 in
theorem event_none (b : Nat) (s : List UInt8) (w : World) (hE : Env w) (hb : Scan b s w) (h10 : 10 ≤ b) (hs : s.length < 4294967281) (n0 : Off.upto 32 s ≠ Off.sDo) (n1 : Off.upto 32 s ≠ Off.sSync) (n2 : Off.upto 32 s ≠ Off.sCompact) (n3 : Off.upto 32 s ≠ Off.sStart) (n4 : Off.upto 32 s ≠ Off.sDrop) (n5 : Off.upto 32 s ≠ Off.sCrash) (n6 : Off.upto 32 s ≠ Off.sTell) (n7 : Off.upto 32 s ≠ Off.sDeliver) (n8 : Off.upto 32 s ≠ Off.sCopy) :
    Calls Tryz.prog 68 #[.pointer (some ⟨b, 0, none⟩)] w (EvPost b w (Off.event s)) := by
  have hlt := hb.lt
  have hz := hE.size
  have hne0 : ¬ b = w.heap.size := by omega
  have hne1 : ¬ b = w.heap.size + 1 := by omega
  have hr0 := behind_le 32 s
  obtain ⟨b1, c1⟩ := two_boxes w (.cells #[.int .i64 0, .int .i64 0, .int .i64 0, .int .i64 0, .bool false, .int .i64 0, .int .i64 0, .int .i64 0, .int .i64 0, .int .i64 0, .string ⟨#[]⟩, .bool false, .int .i64 0, .int .i64 0] 79) (.cells #[.int .i64 0, .int .i64 0, .int .i64 0, .int .i64 0, .bool false, .int .i64 0, .int .i64 0, .int .i64 0, .int .i64 0, .int .i64 0, .string ⟨#[]⟩, .bool false, .int .i64 0, .int .i64 0] 79)
  have hW := word_any b s _ ((hE.alloc _).alloc _) ((hb.alloc (.cells #[.int .i64 0, .int .i64 0, .int .i64 0, .int .i64 0, .bool false, .int .i64 0, .int .i64 0, .int .i64 0, .int .i64 0, .int .i64 0, .string ⟨#[]⟩, .bool false, .int .i64 0, .int .i64 0] 79)).alloc (.cells #[.int .i64 0, .int .i64 0, .int .i64 0, .int .i64 0, .bool false, .int .i64 0, .int .i64 0, .int .i64 0, .int .i64 0, .int .i64 0, .string ⟨#[]⟩, .bool false, .int .i64 0, .int .i64 0] 79)) hs
  have hR1 : Hid (Off.event s = (Off.number (Off.behind 32 s)).bind fun _ => none) := by
    show ((Off.number (Off.behind 32 s)).bind fun (n, r) => Off.eventOf (Off.upto 32 s) n r) = _
    congr 1; funext x; obtain ⟨n, r⟩ := x; show Off.eventOf (Off.upto 32 s) n r = none; unfold Off.eventOf
    rw [if_neg n0, if_neg n1, if_neg n2, if_neg n3, if_neg n4, if_neg n5, if_neg n6, if_neg n7, if_neg n8]
  have m0 : (Off.upto 32 s == [100, 111]) = false := beq_false_of_ne n0
  have m1 : (Off.upto 32 s == [115, 121, 110, 99]) = false := beq_false_of_ne n1
  have m2 : (Off.upto 32 s == [99, 111, 109, 112, 97, 99, 116]) = false := beq_false_of_ne n2
  have m3 : (Off.upto 32 s == [115, 116, 97, 114, 116]) = false := beq_false_of_ne n3
  have m4 : (Off.upto 32 s == [100, 114, 111, 112]) = false := beq_false_of_ne n4
  have m5 : (Off.upto 32 s == [99, 114, 97, 115, 104]) = false := beq_false_of_ne n5
  have m6 : (Off.upto 32 s == [116, 101, 108, 108]) = false := beq_false_of_ne n6
  have m7 : (Off.upto 32 s == [100, 101, 108, 105, 118, 101, 114]) = false := beq_false_of_ne n7
  have m8 : (Off.upto 32 s == [99, 111, 112, 121]) = false := beq_false_of_ne n8
  clear n0 n1 n2 n3 n4 n5 n6 n7 n8
  generalize Off.upto 32 s = u at hW m0 m1 m2 m3 m4 m5 m6 m7 m8
  generalize Off.behind 32 s = r1 at hR1 hr0 hW
  go_enter Tryz.func68, Tryz.ntmps68
  go_wp2_with (go_at_call 106; refine hW.mono ?_; rintro e w1 ⟨rfl, hb1, k1⟩
               have b2 := k1.heap b1 (show ¬ At1 b w.heap.size by unfold At1; omega)
               have c2 := k1.heap c1 (show ¬ At1 b (w.heap.size + 1) by unfold At1; omega)
               have x1 := Lib.cell_of_heap b2; have y1 := Lib.cell_of_heap c2; have z1 := Lib.frozen_of_heap b2; have u1 := Lib.frozen_of_heap c2)
  have K1 : Keeps (At1 b) w w1 := (((Keeps.refl _ _).alloc _).alloc _).trans k1
  have hE1 : Env w1 := hE.keeps K1 fun k e => by unfold At1 at e; omega
  clear hW b1 c1
  have b1 := b2; have c1 := c2; clear b2 c2
  cases h : Off.number r1 with
  | none =>
    go_wp2_with (go_at_call 107; refine (number_bad b r1 _ hE1 hb1 h10 (by omega) h).mono ?_; rintro e w9 ⟨rfl, k9⟩)
    exact ⟨rfl, EvPost.bad (hR1.out.trans (bind_none h)) (K1.trans k9)⟩
  | some p =>
    obtain ⟨n, r2⟩ := p
    have hR2 := Lib.hid (hR1.out.trans (bind_eq h))
    have hl2 := number_rest h
    go_wp2_with (first
      | (go_at_call 107; refine (number_ok b r1 r2 n _ hE1 hb1 h10 (by omega) h).mono ?_; rintro e w2 ⟨rfl, hb2, k2, _⟩
         have b2 := k2.heap b1 (by unfold At1; omega)
         have c2 := k2.heap c1 (by unfold At1; omega)
         have x2 := Lib.cell_of_heap b2; have y2 := Lib.cell_of_heap c2; have z2 := Lib.frozen_of_heap b2; have u2 := Lib.frozen_of_heap c2; clear x1 y1 z1 u1)
      | (go_at_call 109; refine (need_bad _).mono ?_; rintro e w4 ⟨rfl, rfl⟩))
    exact ⟨rfl, EvPost.bad hR2.out ((K1.trans k2).setNew (by omega) _)⟩

end Go.Proofs.YtkpenijilnagjaaGreatDoor
