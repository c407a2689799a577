/- The names of the layer stamp, read: op and Read, each by its contract. -/
import Derived.Test.YtkpenijilnagjaaGreatDoorStamp
namespace Go.Proofs.YtkpenijilnagjaaGreatDoor
open Go.RowKit

set_option maxRecDepth 100000 in
set_option maxHeartbeats 400000 in
theorem op_any (s : List UInt8) (w : World) (hE : Env w) (hs : s.length < 4294967281) :
    Calls Tryz.prog 210 #[.string ⟨s.toArray⟩] w fun e w' => e = .returned (idV (Off.opOf s)) ∧ Keeps No w w' := by
  have hl1 := upto_le 46 s
  have hl2 := behind_le 46 s
  go_enter Tryz.func210, Tryz.ntmps210
  go_wp2_with (go_at_call 154; refine (lib_cut 46 s _ (hE.alloc _) hs).mono ?_)
  rintro e w1 ⟨⟨bb, rfl⟩, k1⟩
  have hE1 : Env w1 := (hE.alloc _).no k1
  have b0 := k1.own id
  go_wp2_with (go_at_call 155; refine (lib_atoi (Off.upto 46 s) _ hE1 (by omega)).mono ?_)
  rintro e w2 ⟨⟨n, ev, rfl, ha⟩, k2⟩
  have hE2 : Env w2 := hE1.no k2
  have b2 := k2.heap b0 id
  have c0 := Lib.cell_of_heap b2
  have f0 := Lib.frozen_of_heap b2
  have hO : Hid (Off.opOf s = match Off.atoiV (Off.upto 46 s) with
    | none => .z
    | some r => match Off.atoiV (Off.behind 46 s) with
      | none => .z
      | some n => ⟨r, n⟩) := rfl
  rcases ha with ⟨hv, rfl, _⟩ | ⟨hv, t, p, rfl⟩
  · go_wp2_with (go_at_call 155; refine (lib_atoi (Off.behind 46 s) _ hE2 (by omega)).mono ?_)
    rintro e w3 ⟨⟨m, ev, rfl, ha⟩, k3⟩
    have b3 := k3.heap b2 id
    have c3 := Lib.cell_of_heap b3
    have f3 := Lib.frozen_of_heap b3
    clear c0 f0
    rcases ha with ⟨hv2, rfl, _⟩ | ⟨hv2, t, p, rfl⟩
    · go_wp2
      have b4 := heap_set (heap_set b3 0 (.int .i64 n)) 1 (.int .i64 m)
      have c4 := Lib.cell_of_heap b4
      refine bodyPost_ret (v := .agg #[.int .i64 n, .int .i64 m]) (by simp [results, Tryz.results210, go_sem, c4]) rfl ⟨?_, ?_⟩
      · rw [hO.out, hv, hv2]; first | done | rfl
      · exact (((((Keeps.refl _ _).alloc _).no k1).no k2).no k3 |>.setNew (Nat.le_refl _) _).setNew (Nat.le_refl _) _
    · go_wp2
      have b4 := heap_set (heap_set b3 0 (.int .i64 0)) 1 (.int .i64 0)
      have c4 := Lib.cell_of_heap b4
      refine bodyPost_ret (v := .agg #[.int .i64 0, .int .i64 0]) (by simp [results, Tryz.results210, go_sem, c4]) rfl ⟨?_, ?_⟩
      · rw [hO.out, hv, hv2]; first | done | rfl
      · exact (((((Keeps.refl _ _).alloc _).no k1).no k2).no k3 |>.setNew (Nat.le_refl _) _).setNew (Nat.le_refl _) _
  · go_wp2
    have b4 := heap_set (heap_set b2 0 (.int .i64 0)) 1 (.int .i64 0)
    have c4 := Lib.cell_of_heap b4
    refine bodyPost_ret (v := .agg #[.int .i64 0, .int .i64 0]) (by simp [results, Tryz.results210, go_sem, c4]) rfl ⟨?_, ?_⟩
    · rw [hO.out, hv]; first | done | rfl
    · exact ((((Keeps.refl _ _).alloc _).no k1).no k2 |>.setNew (Nat.le_refl _) _).setNew (Nat.le_refl _) _

set_option maxRecDepth 100000 in
set_option maxHeartbeats 400000 in
theorem readId_any (s : List UInt8) (w : World) (hE : Env w) (hs : s.length < 4294967281) :
    Calls Tryz.prog 185 #[.string ⟨s.toArray⟩] w fun e w' =>
      e = .returned (.tuple #[idV ((Off.readId s).getD .z), .bool (Off.readId s).isSome]) ∧ Keeps No w w' := by
  have r0 := hE.root0
  have r1 := hE.root1
  have t0 := hE.trash0
  have t1 := hE.trash1
  have hz0 : 0 < w.heap.size := by have := hE.size; omega
  have hz1 : 1 < w.heap.size := by have := hE.size; omega
  go_enter Tryz.func185, Tryz.ntmps185
  have hin := opOf_in s
  have hO : Hid (Off.readId s = if s = Off.sRoot then some .z else if s = Off.sTrash then some .t
    else if Off.rightOp (Off.opOf s) = true ∧ Off.showId (Off.opOf s) = s then some (Off.opOf s) else none) := rfl
  have cop := op_any s
  generalize Off.opOf s = i at hin hO cop
  obtain ⟨R, N⟩ := i
  obtain ⟨hR, hN⟩ := hin
  go_wp2_with (go_at_call 210; refine (cop _ (hE.alloc _) hs).mono ?_)
  · have h : s = Off.sRoot := eq_of_beq (by assumption : (s == [114, 111, 111, 116]) = true)
    refine bodyPost_ret (v := .tuple #[.agg #[.int .i64 0, .int .i64 0], .bool true]) (by simp [results, Tryz.results185, go_sem]) rfl ⟨?_, (by repeat (first | exact Keeps.refl _ _ | assumption | refine Keeps.alloc ?_ _ | refine Keeps.drewN ?_ _ | refine Keeps.drew ?_ | refine Keeps.set1 ?_ _ | refine Keeps.no ?_ (by assumption) | refine Keeps.any ?_))⟩
    rw [hO.out, if_pos h]; first | done | rfl
  · have h1 : ¬ s = Off.sRoot := ne_of_beq_false (by assumption : (s == [114, 111, 111, 116]) = false)
    have h2 : s = Off.sTrash := eq_of_beq (by assumption : (s == [116, 114, 97, 115, 104]) = true)
    refine bodyPost_ret (v := .tuple #[.agg #[.int .i64 1, .int .i64 0], .bool true]) (by simp [results, Tryz.results185, go_sem]) rfl ⟨?_, (by repeat (first | exact Keeps.refl _ _ | assumption | refine Keeps.alloc ?_ _ | refine Keeps.drewN ?_ _ | refine Keeps.drew ?_ | refine Keeps.set1 ?_ _ | refine Keeps.no ?_ (by assumption) | refine Keeps.any ?_))⟩
    rw [hO.out, if_neg h1, if_pos h2]; first | done | rfl
  · have h1 : Hid (¬ s = Off.sRoot) := ne_of_beq_false (by assumption : (s == [114, 111, 111, 116]) = false)
    have h2 : Hid (¬ s = Off.sTrash) := ne_of_beq_false (by assumption : (s == [116, 114, 97, 115, 104]) = false)
    rintro e w1 rfl k1
    have hE1 := (hE.alloc (.cells #[.int .i64 0, .int .i64 0] 34)).no k1
    have b1 := k1.own id
    unfold idV
    have cr := rightOp_any R N
    have fin : ∀ w2 w3, Keeps No (w1.alloc (.cells #[.int .i64 R, .int .i64 N] 34)) w2 → Keeps No w2 w3 → ∀ x y : Value,
        Keeps No w ((w3.setCell ⟨w.heap.size, 0, none⟩ x).setCell ⟨w.heap.size, 1, none⟩ y) := fun w2 w3 k2 k3 x y =>
      ((((((Keeps.refl _ _).alloc _).no k1).alloc _).no k2).no k3 |>.setNew (Nat.le_refl _) _).setNew (Nat.le_refl _) _
    cases hr : Off.rightOp ⟨R, N⟩ with
    | false =>
      rw [hr] at cr
      have Hr := Lib.hid hr
      clear hr
      go_wp2_with (go_at_call 83; refine (cr _).mono ?_; rintro e w2 ⟨rfl, k2⟩
                   have b2 := k2.heap (heap_alloc_keep b1 _) id
                   have c2 := Lib.cell_of_heap b2
                   have f2 := Lib.frozen_of_heap b2)
      have b4 := heap_set (heap_set b2 0 (.int .i64 0)) 1 (.int .i64 0)
      have c4 := Lib.cell_of_heap b4
      refine bodyPost_ret (v := .tuple #[.agg #[.int .i64 0, .int .i64 0], .bool false]) (by simp [results, Tryz.results185, go_sem, c4]) rfl ⟨?_, fin _ _ k2 (Keeps.refl _ _) _ _⟩
      rw [hO.out, if_neg h1.out, if_neg h2.out, Hr.out, if_neg (by simp)]; first | done | rfl
    | true =>
      rw [hr] at cr
      have Hr := Lib.hid hr
      clear hr
      go_wp2_with (go_at_call 83; refine (cr _).mono ?_; rintro e w2 ⟨rfl, k2⟩
                   have hE2 := (hE1.alloc (.cells #[.int .i64 R, .int .i64 N] 34)).no k2
                   have b2 := k2.heap (heap_alloc_keep b1 _) id
                   have d2 := k2.own id
                   have e2 := Lib.cell_of_heap d2)
      by_cases hs2 : Off.showId ⟨R, N⟩ = s
      · have cs := showId_any R N _ hE2 hR hN
        rw [hs2] at cs
        have Hs := Lib.hid hs2
        clear hs2
        go_wp2_with (go_at_call 162; refine cs.mono ?_; rintro e w3 ⟨rfl, k3⟩
                     have b3 := k3.heap b2 id
                     have d3 := k3.heap d2 id
                     have c3 := Lib.cell_of_heap b3
                     have f3 := Lib.frozen_of_heap b3
                     have e3 := Lib.cell_of_heap d3
                     clear e2)
        have b4 := heap_set (heap_set b3 0 (.int .i64 R)) 1 (.int .i64 N)
        have c4 := Lib.cell_of_heap b4
        refine bodyPost_ret (v := .tuple #[.agg #[.int .i64 R, .int .i64 N], .bool true]) (by simp [results, Tryz.results185, go_sem, c4]) rfl ⟨?_, fin _ _ k2 k3 _ _⟩
        rw [hO.out, if_neg h1.out, if_neg h2.out, if_pos ⟨Hr.out, Hs.out⟩]; first | done | rfl
      · have hb : (Off.showId ⟨R, N⟩ == s) = false := beq_false_of_ne hs2
        have Hs := Lib.hid hs2
        clear hs2
        go_wp2_with (go_at_call 162; refine (showId_any R N _ hE2 hR hN).mono ?_; rintro e w3 ⟨rfl, k3⟩
                     have b3 := k3.heap b2 id
                     have d3 := k3.heap d2 id
                     have c3 := Lib.cell_of_heap b3
                     have f3 := Lib.frozen_of_heap b3
                     have e3 := Lib.cell_of_heap d3
                     clear e2)
        have b4 := heap_set (heap_set b3 0 (.int .i64 0)) 1 (.int .i64 0)
        have c4 := Lib.cell_of_heap b4
        refine bodyPost_ret (v := .tuple #[.agg #[.int .i64 0, .int .i64 0], .bool false]) (by simp [results, Tryz.results185, go_sem, c4]) rfl ⟨?_, fin _ _ k2 k3 _ _⟩
        rw [hO.out, if_neg h1.out, if_neg h2.out, if_neg (fun h => Hs.out h.2)]; first | done | rfl

theorem readId_in {s : List UInt8} {i : Off.Bid} (h : Off.readId s = some i) : Off.I64 i.R ∧ Off.I64 i.N := by
  unfold Off.readId at h
  split at h
  · cases h; exact ⟨⟨by decide, by decide⟩, ⟨by decide, by decide⟩⟩
  · split at h
    · cases h; exact ⟨⟨by decide, by decide⟩, ⟨by decide, by decide⟩⟩
    · split at h
      · cases h; exact opOf_in s
      · cases h

end Go.Proofs.YtkpenijilnagjaaGreatDoor
