/- The scanner's command: a word that tells a block alone; and all branches together. -/
import Derived.Test.YtkpenijilnagjaaGreatDoorCmdA
import Derived.Test.YtkpenijilnagjaaGreatDoorCmdB
namespace Go.Proofs.YtkpenijilnagjaaGreatDoor
open Go.RowKit

set_option maxRecDepth 100000 in
set_option maxHeartbeats 2000000 in
theorem command_plain (b : Nat) (s : List UInt8) (w : World) (hE : Env w) (hb : Scan b s w) (h10 : 10 ≤ b) (hs : s.length < 4294967281)
    (n1 : Off.upto 32 s ≠ Off.sNew) (n2 : Off.upto 32 s ≠ Off.sType) (n3 : Off.upto 32 s ≠ Off.sErase) (n4 : Off.upto 32 s ≠ Off.sSplit) (n5 : Off.upto 32 s ≠ Off.sMove) (n6 : Off.upto 32 s ≠ Off.sPlace) :
    Calls Tryz.prog 108 #[.pointer (some ⟨b, 0, none⟩)] w (CmdPost b w (Off.command s)) := by
  have hlt := hb.lt
  have hz := hE.size
  have hne0 : ¬ b = w.heap.size := by omega
  have hne1 : ¬ b = w.heap.size + 1 := by omega
  have hr0 := behind_le 32 s
  have hR0 : Off.command s = if Off.simple (Off.upto 32 s) = 0 then none else
      (Off.block (Off.behind 32 s)).bind fun (b, r) => some (⟨Off.simple (Off.upto 32 s), b, 0, 0, [], decide (Off.upto 32 s = Off.sFold), .z⟩, r) := by
    show Off.commandOf (Off.upto 32 s) (Off.behind 32 s) = _
    unfold Off.commandOf
    rw [if_neg n1, if_neg n2, if_neg n3, if_neg n4, if_neg n5, if_neg n6]
  obtain ⟨b1, c1⟩ := two_boxes w (.cells #[.int .i64 0, .int .i64 0, .int .i64 0, .int .i64 0, .int .i64 0, .string ⟨#[]⟩, .bool false, .int .i64 0, .int .i64 0] 77) (.cells #[.int .i64 0, .int .i64 0, .int .i64 0, .int .i64 0, .int .i64 0, .string ⟨#[]⟩, .bool false, .int .i64 0, .int .i64 0] 77)
  have hW := word_any b s _ ((hE.alloc _).alloc _) ((hb.alloc (.cells #[.int .i64 0, .int .i64 0, .int .i64 0, .int .i64 0, .int .i64 0, .string ⟨#[]⟩, .bool false, .int .i64 0, .int .i64 0] 77)).alloc (.cells #[.int .i64 0, .int .i64 0, .int .i64 0, .int .i64 0, .int .i64 0, .string ⟨#[]⟩, .bool false, .int .i64 0, .int .i64 0] 77)) hs
  have m1 : (Off.upto 32 s == [110, 101, 119]) = false := beq_false_of_ne n1
  have m2 : (Off.upto 32 s == [116, 121, 112, 101]) = false := beq_false_of_ne n2
  have m3 : (Off.upto 32 s == [101, 114, 97, 115, 101]) = false := beq_false_of_ne n3
  have m4 : (Off.upto 32 s == [115, 112, 108, 105, 116]) = false := beq_false_of_ne n4
  have m5 : (Off.upto 32 s == [109, 111, 118, 101]) = false := beq_false_of_ne n5
  have m6 : (Off.upto 32 s == [112, 108, 97, 99, 101]) = false := beq_false_of_ne n6
  clear n1 n2 n3 n4 n5 n6
  generalize Off.behind 32 s = r1 at hR0 hr0 hW
  generalize Off.upto 32 s = u at hR0 hW m1 m2 m3 m4 m5 m6
  by_cases hk : Off.simple u = 0
  · have hR : Hid (Off.command s = none) := by rw [hR0, if_pos hk]; rfl
    have hS := simple_any u
    rw [hk] at hS
    clear hk hR0
    go_enter Tryz.func108, Tryz.ntmps108
    go_wp2_with (first
      | (go_at_call 106; refine hW.mono ?_; rintro e w1 ⟨rfl, hb1, k1⟩
         have c2 := k1.heap c1 (show ¬ At1 b (w.heap.size + 1) by unfold At1; omega)
         have y1 := Lib.cell_of_heap c2; have u1 := Lib.frozen_of_heap c2)
      | (go_at_call 159; refine (hS _).mono ?_; rintro e w2 ⟨rfl, rfl⟩)
      | (go_at_call 109; refine (need_bad _).mono ?_; rintro e w4 ⟨rfl, rfl⟩))
    have K1 : Keeps (At1 b) w w1 := (((Keeps.refl _ _).alloc _).alloc _).trans k1
    exact ⟨rfl, CmdPost.bad hR.out ((K1.setNew (by omega) _).setNew (by omega) _)⟩
  · have hR1 : Hid (Off.command s = (Off.block r1).bind fun (b, r) => some (⟨Off.simple u, b, 0, 0, [], decide (u = Off.sFold), .z⟩, r)) := by rw [hR0, if_neg hk]; rfl
    have hk' : (Off.simple u != 0) = true := by simpa using hk
    have hS := simple_any u
    clear hk hR0
    generalize Off.simple u = kd at hR1 hk' hS
    go_enter Tryz.func108, Tryz.ntmps108
    go_wp2_with (first
      | (go_at_call 106; refine hW.mono ?_; rintro e w1 ⟨rfl, hb1, k1⟩
         have b2 := k1.heap b1 (show ¬ At1 b w.heap.size by unfold At1; omega)
         have c2 := k1.heap c1 (show ¬ At1 b (w.heap.size + 1) by unfold At1; omega)
         have x1 := Lib.cell_of_heap b2; have y1 := Lib.cell_of_heap c2; have z1 := Lib.frozen_of_heap b2; have u1 := Lib.frozen_of_heap c2)
      | (go_at_call 159; refine (hS _).mono ?_; rintro e w2 ⟨rfl, rfl⟩)
      | (go_at_call 109; refine (need_ok _).mono ?_; rintro e w4 ⟨rfl, rfl⟩))
    have K1 : Keeps (At1 b) w w1 := (((Keeps.refl _ _).alloc _).alloc _).trans k1
    have hE1 : Env w1 := hE.keeps K1 fun k e => by unfold At1 at e; omega
    clear hW b1 c1
    have c2a : (w1.setCell ⟨w.heap.size + 1, 0, none⟩ (.int .i64 kd)).heap[w.heap.size + 1]? =
        some (.cells #[.int .i64 kd, .int .i64 0, .int .i64 0, .int .i64 0, .int .i64 0, .string ⟨#[]⟩, .bool false, .int .i64 0, .int .i64 0] 77 (0, 0)) := heap_set c2 0 (.int .i64 kd)
    have c3 : ((w1.setCell ⟨w.heap.size + 1, 0, none⟩ (.int .i64 kd)).setCell ⟨w.heap.size + 1, 6, none⟩ (.bool (u == [102, 111, 108, 100]))).heap[w.heap.size + 1]? =
        some (.cells #[.int .i64 kd, .int .i64 0, .int .i64 0, .int .i64 0, .int .i64 0, .string ⟨#[]⟩, .bool (u == [102, 111, 108, 100]), .int .i64 0, .int .i64 0] 77 (0, 0)) :=
      heap_set c2a 6 (.bool (u == [102, 111, 108, 100]))
    have b3 := heap_set_ne (heap_set_ne b2 (j := 0) (show w.heap.size ≠ w.heap.size + 1 by omega) (.int .i64 kd)) (j := 6) (show w.heap.size ≠ w.heap.size + 1 by omega) (.bool (u == [102, 111, 108, 100]))
    cases h : Off.block r1 with
    | none =>
      go_wp2_with (go_at_call 157; refine (block_bad b r1 _ ((hE1.setNew (by omega) _).setNew (by omega) _) ((hb1.other (by omega) _).other (by omega) _) h10 (by omega) h).mono ?_; rintro e w9 ⟨rfl, k9⟩)
      exact ⟨rfl, CmdPost.bad (hR1.out.trans (bind_none h)) (((K1.setNew (by omega) _).setNew (by omega) _).trans k9)⟩
    | some p =>
      obtain ⟨⟨R, N⟩, r2⟩ := p
      have hR2 := Lib.hid (hR1.out.trans (bind_eq h))
      go_wp2_with (go_at_call 157; refine (block_ok b r1 r2 ⟨R, N⟩ _ ((hE1.setNew (by omega) _).setNew (by omega) _) ((hb1.other (by omega) _).other (by omega) _) h10 (by omega) h).mono ?_; rintro e w3 ⟨rfl, hb3, k3⟩
                   have b4 := k3.heap b3 (by unfold At1; omega)
                   have c4 := k3.heap c3 (by unfold At1; omega)
                   have x3 := Lib.cell_of_heap b4; have y3 := Lib.cell_of_heap c4; have z3 := Lib.frozen_of_heap b4; have u3 := Lib.frozen_of_heap c4)
      have K3 := ((K1.setNew (j := 0) (show w.heap.size ≤ w.heap.size + 1 by omega) (.int .i64 kd)).setNew (j := 6) (show w.heap.size ≤ w.heap.size + 1 by omega) (.bool (u == [102, 111, 108, 100]))).trans k3
      clear h x1 y1 z1 u1
      have b9 := heap_fill9 (heap_set_ne (heap_set_ne b4 (j := 1) (show w.heap.size ≠ w.heap.size + 1 by omega) (.int .i64 R)) (j := 2) (show w.heap.size ≠ w.heap.size + 1 by omega) (.int .i64 N))
        (.int .i64 kd) (.int .i64 R) (.int .i64 N) (.int .i64 0) (.int .i64 0) (.string ⟨#[]⟩) (.bool (u == [102, 111, 108, 100])) (.int .i64 0) (.int .i64 0)
      refine bodyPost_ret (res_cmd b9 rfl) rfl (CmdPost.good hR2.out ?_ (Keeps.fill9 ((K3.setNew (by omega) _).setNew (by omega) _) (Nat.le_refl _) _ _ _ _ _ _ _ _ _) (Scan.fill9 ((hb3.other (by omega) _).other (by omega) _) hne0 _ _ _ _ _ _ _ _ _))
      have : (u == [102, 111, 108, 100]) = decide (u = Off.sFold) := by
        by_cases hh : u = Off.sFold
        · rw [decide_eq_true hh]; exact beq_iff_eq.2 hh
        · rw [decide_eq_false hh]; exact beq_eq_false_iff_ne.2 hh
      rw [this]; rfl

theorem command_any (b : Nat) (s : List UInt8) (w : World) (hE : Env w) (hb : Scan b s w) (h10 : 10 ≤ b) (hs : s.length < 4294967281) :
    Calls Tryz.prog 108 #[.pointer (some ⟨b, 0, none⟩)] w (CmdPost b w (Off.command s)) := by
  by_cases n1 : Off.upto 32 s = Off.sNew
  · exact command_new b s w hE hb h10 hs n1
  by_cases n2 : Off.upto 32 s = Off.sType
  · exact command_type b s w hE hb h10 hs n2
  by_cases n3 : Off.upto 32 s = Off.sErase
  · exact command_erase b s w hE hb h10 hs n3
  by_cases n4 : Off.upto 32 s = Off.sSplit
  · exact command_split b s w hE hb h10 hs n4
  by_cases n5 : Off.upto 32 s = Off.sMove
  · exact command_move b s w hE hb h10 hs n5
  by_cases n6 : Off.upto 32 s = Off.sPlace
  · exact command_place b s w hE hb h10 hs n6
  exact command_plain b s w hE hb h10 hs n1 n2 n3 n4 n5 n6

end Go.Proofs.YtkpenijilnagjaaGreatDoor
