/- parse: the event of a line. -/
import Derived.Test.YtkpenijilnagjaaDoorShow
import Derived.Test.YtkpenijilnagjaaDoorCatch
import Derived.Test.YtkpenijilnagjaaDoorFits
namespace Go.Proofs.YtkpenijilnagjaaDoor
open Go.RowKit

/-- how parse ends -/
def ParsePost (w : World) (r : Option Off.Ev) (e : Ending) (w' : World) : Prop :=
  (match r with
    | some ev => e = .returned (.tuple #[evV ev, .bool true])
    | none => ∃ ev : Off.Ev, e = .returned (.tuple #[evV ev, .bool false])) ∧ Keeps No w w'
theorem ParsePost.bad {w w' : World} {r : Option Off.Ev} {v : Value} (ev : Off.Ev) (hv : v = evV ev) (h : r = none) (k : Keeps No w w') : ParsePost w r (.returned (.tuple #[v, .bool false])) w' := by
  subst h hv; exact ⟨⟨ev, rfl⟩, k⟩
theorem ParsePost.good {w w' : World} {r : Option Off.Ev} {ev : Off.Ev} (h : r = some ev) (k : Keeps No w w') : ParsePost w r (.returned (.tuple #[evV ev, .bool true])) w' := by
  subst h; exact ⟨rfl, k⟩

set_option maxRecDepth 100000 in
set_option maxHeartbeats 2000000 in
theorem parse_any (l : List UInt8) (w : World) (hE : Env w) (hl : l.length ≤ 1000000) :
    Calls Tryd.prog 15 #[.string ⟨l.toArray⟩] w (ParsePost w (Off.parseLine l)) := by
  have hmf : ∀ (fn : Fn) (first cap : Array Value) (w : World), (Instr.makeFunc fn first cap).run Tryd.prog w = .ok (.func fn first cap) w := fun _ _ _ _ => rfl
  have hz := hE.size
  obtain ⟨b0, q0, s0⟩ := three_boxes w (.cells #[.int .i64 0, .int .i64 0, .int .i64 0, .int .i64 0, .bool false, .int .i64 0, .int .i64 0, .int .i64 0, .int .i64 0, .int .i64 0, .string ⟨#[]⟩, .bool false, .int .i64 0, .int .i64 0] 38) (.cells #[.bool false] 4) (.cells #[.string ⟨l.toArray⟩] 69)
  have hE0 : Env (((w.alloc (.cells #[.int .i64 0, .int .i64 0, .int .i64 0, .int .i64 0, .bool false, .int .i64 0, .int .i64 0, .int .i64 0, .int .i64 0, .int .i64 0, .string ⟨#[]⟩, .bool false, .int .i64 0, .int .i64 0] 38)).alloc (.cells #[.bool false] 4)).alloc (.cells #[.string ⟨l.toArray⟩] 69)) := ((hE.alloc _).alloc _).alloc _
  have k0 : Keeps No w (((w.alloc (.cells #[.int .i64 0, .int .i64 0, .int .i64 0, .int .i64 0, .bool false, .int .i64 0, .int .i64 0, .int .i64 0, .int .i64 0, .int .i64 0, .string ⟨#[]⟩, .bool false, .int .i64 0, .int .i64 0] 38)).alloc (.cells #[.bool false] 4)).alloc (.cells #[.string ⟨l.toArray⟩] 69)) := (((Keeps.refl No w).alloc _).alloc _).alloc _
  go_enter_defers Tryd.func15, Tryd.ntmps15
  go_wp2_with fail
  generalize ((w.alloc (.cells #[.int .i64 0, .int .i64 0, .int .i64 0, .int .i64 0, .bool false, .int .i64 0, .int .i64 0, .int .i64 0, .int .i64 0, .int .i64 0, .string ⟨#[]⟩, .bool false, .int .i64 0, .int .i64 0] 38)).alloc (.cells #[.bool false] 4)).alloc (.cells #[.string ⟨l.toArray⟩] 69) = W0 at *
  have hv := event_any (w.heap.size + 1 + 1) l W0 hE0 s0 (by omega) (by omega)
  cases h : Off.event l with
  | none =>
    rw [h] at hv
    go_wp2_with (go_at_call 24; refine hv.mono ?_; rintro e w1 ⟨k1, he⟩; replace he : e = .panicked wrongChain := he; subst he)
    have b1 := k1.heap b0 (show ¬ At1 (w.heap.size + 1 + 1) w.heap.size by unfold At1; omega)
    have q1 := k1.heap q0 (show ¬ At1 (w.heap.size + 1 + 1) (w.heap.size + 1) by unfold At1; omega)
    have K1 : Keeps No w w1 := k0.step k1 fun k e hlt => by unfold At1 at e; omega
    have hP : Off.parseLine l = none := by unfold Off.parseLine; rw [h]
    refine leaves_cons (f := 23) (args := #[.pointer (some ⟨w.heap.size, 0, none⟩), .pointer (some ⟨w.heap.size + 1, 0, none⟩)]) (by simp) (by simp [go_sem]) ?_
    refine (catch_wrong w.heap.size (w.heap.size + 1) w1 (by omega) b1 q1).mono ?_
    rintro e u' w2 ⟨rfl, rfl, b2, q2, k2⟩
    have K2 : Keeps No w w2 := K1.step k2 fun k e hlt => by omega
    have xb := Lib.cell_of_heap b2; have xq := Lib.cell_of_heap q2
    simp [Leaves, settle, results, Tryd.results15, go_sem, xb, xq]
    exact ParsePost.bad .z rfl hP K2
  | some p =>
    obtain ⟨⟨kd, en, eto, ek, ef, ⟨ck, ⟨R, N⟩, pp, n, t, f, ⟨R2, N2⟩⟩⟩, r⟩ := p
    have hf := event_fits hl h
    rw [h] at hv
    go_wp2_with (first
      | (go_at_call 24; refine hv.mono ?_; rintro e w1 ⟨k1, rfl, hs1⟩
         have b1 := k1.heap b0 (show ¬ At1 (w.heap.size + 1 + 1) w.heap.size by unfold At1; omega)
         have q1 := k1.heap q0 (show ¬ At1 (w.heap.size + 1 + 1) (w.heap.size + 1) by unfold At1; omega)
         have xb := Lib.cell_of_heap b1; have xf := Lib.frozen_of_heap b1; have xq := Lib.cell_of_heap q1; have yf := Lib.frozen_of_heap q1
         have K1 : Keeps No w w1 := k0.step k1 fun k e hlt => by unfold At1 at e; omega))
    have b2 := heap_fill14 b1 (.int .i64 kd) (.int .i64 en) (.int .i64 eto) (.int .i64 ek) (.bool ef) (.int .i64 ck) (.int .i64 R) (.int .i64 N) (.int .i64 pp) (.int .i64 n) (.string ⟨t.toArray⟩) (.bool f) (.int .i64 R2) (.int .i64 N2)
    have q2 := (heap_set_ne (heap_set_ne (heap_set_ne (heap_set_ne (heap_set_ne (heap_set_ne (heap_set_ne (heap_set_ne (heap_set_ne (heap_set_ne (heap_set_ne (heap_set_ne (heap_set_ne (heap_set_ne q1 (j := 0) (show w.heap.size + 1 ≠ w.heap.size by omega) (.int .i64 kd)) (j := 1) (show w.heap.size + 1 ≠ w.heap.size by omega) (.int .i64 en)) (j := 2) (show w.heap.size + 1 ≠ w.heap.size by omega) (.int .i64 eto)) (j := 3) (show w.heap.size + 1 ≠ w.heap.size by omega) (.int .i64 ek)) (j := 4) (show w.heap.size + 1 ≠ w.heap.size by omega) (.bool ef)) (j := 5) (show w.heap.size + 1 ≠ w.heap.size by omega) (.int .i64 ck)) (j := 6) (show w.heap.size + 1 ≠ w.heap.size by omega) (.int .i64 R)) (j := 7) (show w.heap.size + 1 ≠ w.heap.size by omega) (.int .i64 N)) (j := 8) (show w.heap.size + 1 ≠ w.heap.size by omega) (.int .i64 pp)) (j := 9) (show w.heap.size + 1 ≠ w.heap.size by omega) (.int .i64 n)) (j := 10) (show w.heap.size + 1 ≠ w.heap.size by omega) (.string ⟨t.toArray⟩)) (j := 11) (show w.heap.size + 1 ≠ w.heap.size by omega) (.bool f)) (j := 12) (show w.heap.size + 1 ≠ w.heap.size by omega) (.int .i64 R2)) (j := 13) (show w.heap.size + 1 ≠ w.heap.size by omega) (.int .i64 N2))
    have K2 := Keeps.fill14 K1 (b := w.heap.size) (Nat.le_refl _) (.int .i64 kd) (.int .i64 en) (.int .i64 eto) (.int .i64 ek) (.bool ef) (.int .i64 ck) (.int .i64 R) (.int .i64 N) (.int .i64 pp) (.int .i64 n) (.string ⟨t.toArray⟩) (.bool f) (.int .i64 R2) (.int .i64 N2)
    have s2 := Scan.fill14 hs1 (b := w.heap.size) (by omega) (.int .i64 kd) (.int .i64 en) (.int .i64 eto) (.int .i64 ek) (.bool ef) (.int .i64 ck) (.int .i64 R) (.int .i64 N) (.int .i64 pp) (.int .i64 n) (.string ⟨t.toArray⟩) (.bool f) (.int .i64 R2) (.int .i64 N2)
    clear xb xf xq yf
    generalize ((((((((((((((w1.setCell ⟨w.heap.size, 0, none⟩ (.int .i64 kd)).setCell ⟨w.heap.size, 1, none⟩ (.int .i64 en)).setCell ⟨w.heap.size, 2, none⟩ (.int .i64 eto)).setCell ⟨w.heap.size, 3, none⟩ (.int .i64 ek)).setCell ⟨w.heap.size, 4, none⟩ (.bool ef)).setCell ⟨w.heap.size, 5, none⟩ (.int .i64 ck)).setCell ⟨w.heap.size, 6, none⟩ (.int .i64 R)).setCell ⟨w.heap.size, 7, none⟩ (.int .i64 N)).setCell ⟨w.heap.size, 8, none⟩ (.int .i64 pp)).setCell ⟨w.heap.size, 9, none⟩ (.int .i64 n)).setCell ⟨w.heap.size, 10, none⟩ (.string ⟨t.toArray⟩)).setCell ⟨w.heap.size, 11, none⟩ (.bool f)).setCell ⟨w.heap.size, 12, none⟩ (.int .i64 R2)).setCell ⟨w.heap.size, 13, none⟩ (.int .i64 N2)) = w2 at *
    have hP : Off.parseLine l = if Off.evOk ⟨kd, en, eto, ek, ef, ⟨ck, ⟨R, N⟩, pp, n, t, f, ⟨R2, N2⟩⟩⟩ = true ∧ Off.evLine ⟨kd, en, eto, ek, ef, ⟨ck, ⟨R, N⟩, pp, n, t, f, ⟨R2, N2⟩⟩⟩ = l then some ⟨kd, en, eto, ek, ef, ⟨ck, ⟨R, N⟩, pp, n, t, f, ⟨R2, N2⟩⟩⟩ else none := by unfold Off.parseLine; rw [h]
    have hS := show_any ⟨kd, en, eto, ek, ef, ⟨ck, ⟨R, N⟩, pp, n, t, f, ⟨R2, N2⟩⟩⟩ w2 (hE.no K2) hf
    have hps := s2.cell
    have HP := Lib.hid hP; clear hP
    have xq2 := Lib.cell_of_heap q2
    generalize hok : Off.evOk ⟨kd, en, eto, ek, ef, ⟨ck, ⟨R, N⟩, pp, n, t, f, ⟨R2, N2⟩⟩⟩ = ok at *
    generalize hln : Off.evLine ⟨kd, en, eto, ek, ef, ⟨ck, ⟨R, N⟩, pp, n, t, f, ⟨R2, N2⟩⟩⟩ = ln at *
    go_wp2_with (go_at_call 11; refine hS.mono ?_; rintro e w3 ⟨rfl, k3⟩
                 have b3 := k3.heap b2 id; have q3 := k3.heap q2 id
                 have xb3 := Lib.cell_of_heap b3; have xq3 := Lib.cell_of_heap q3; have zb3 := Lib.frozen_of_heap b3; have zq3 := Lib.frozen_of_heap q3)
    · have b4 := heap_set_ne (heap_fill14 b3 (.int .i64 kd) (.int .i64 en) (.int .i64 eto) (.int .i64 ek) (.bool ef) (.int .i64 ck) (.int .i64 R) (.int .i64 N) (.int .i64 pp) (.int .i64 n) (.string ⟨t.toArray⟩) (.bool f) (.int .i64 R2) (.int .i64 N2)) (j := 0) (show w.heap.size ≠ w.heap.size + 1 by omega) (.bool (ln == l))
      have q4 : (((((((((((((((w3.setCell ⟨w.heap.size, 0, none⟩ (.int .i64 kd)).setCell ⟨w.heap.size, 1, none⟩ (.int .i64 en)).setCell ⟨w.heap.size, 2, none⟩ (.int .i64 eto)).setCell ⟨w.heap.size, 3, none⟩ (.int .i64 ek)).setCell ⟨w.heap.size, 4, none⟩ (.bool ef)).setCell ⟨w.heap.size, 5, none⟩ (.int .i64 ck)).setCell ⟨w.heap.size, 6, none⟩ (.int .i64 R)).setCell ⟨w.heap.size, 7, none⟩ (.int .i64 N)).setCell ⟨w.heap.size, 8, none⟩ (.int .i64 pp)).setCell ⟨w.heap.size, 9, none⟩ (.int .i64 n)).setCell ⟨w.heap.size, 10, none⟩ (.string ⟨t.toArray⟩)).setCell ⟨w.heap.size, 11, none⟩ (.bool f)).setCell ⟨w.heap.size, 12, none⟩ (.int .i64 R2)).setCell ⟨w.heap.size, 13, none⟩ (.int .i64 N2)).setCell ⟨w.heap.size + 1, 0, none⟩ (.bool (ln == l))).heap[w.heap.size + 1]? = some (.cells #[.bool (ln == l)] 4 (0, 0)) := heap_set (heap_set_ne (heap_set_ne (heap_set_ne (heap_set_ne (heap_set_ne (heap_set_ne (heap_set_ne (heap_set_ne (heap_set_ne (heap_set_ne (heap_set_ne (heap_set_ne (heap_set_ne (heap_set_ne q3 (j := 0) (show w.heap.size + 1 ≠ w.heap.size by omega) (.int .i64 kd)) (j := 1) (show w.heap.size + 1 ≠ w.heap.size by omega) (.int .i64 en)) (j := 2) (show w.heap.size + 1 ≠ w.heap.size by omega) (.int .i64 eto)) (j := 3) (show w.heap.size + 1 ≠ w.heap.size by omega) (.int .i64 ek)) (j := 4) (show w.heap.size + 1 ≠ w.heap.size by omega) (.bool ef)) (j := 5) (show w.heap.size + 1 ≠ w.heap.size by omega) (.int .i64 ck)) (j := 6) (show w.heap.size + 1 ≠ w.heap.size by omega) (.int .i64 R)) (j := 7) (show w.heap.size + 1 ≠ w.heap.size by omega) (.int .i64 N)) (j := 8) (show w.heap.size + 1 ≠ w.heap.size by omega) (.int .i64 pp)) (j := 9) (show w.heap.size + 1 ≠ w.heap.size by omega) (.int .i64 n)) (j := 10) (show w.heap.size + 1 ≠ w.heap.size by omega) (.string ⟨t.toArray⟩)) (j := 11) (show w.heap.size + 1 ≠ w.heap.size by omega) (.bool f)) (j := 12) (show w.heap.size + 1 ≠ w.heap.size by omega) (.int .i64 R2)) (j := 13) (show w.heap.size + 1 ≠ w.heap.size by omega) (.int .i64 N2)) 0 (.bool (ln == l))
      have K4 := Keeps.setNew (Keeps.fill14 (K2.trans k3) (b := w.heap.size) (Nat.le_refl _) (.int .i64 kd) (.int .i64 en) (.int .i64 eto) (.int .i64 ek) (.bool ef) (.int .i64 ck) (.int .i64 R) (.int .i64 N) (.int .i64 pp) (.int .i64 n) (.string ⟨t.toArray⟩) (.bool f) (.int .i64 R2) (.int .i64 N2)) (b := w.heap.size + 1) (j := 0) (by omega) (.bool (ln == l))
      clear xb3 xq3 zb3 zq3 b3 q3
      generalize (((((((((((((((w3.setCell ⟨w.heap.size, 0, none⟩ (.int .i64 kd)).setCell ⟨w.heap.size, 1, none⟩ (.int .i64 en)).setCell ⟨w.heap.size, 2, none⟩ (.int .i64 eto)).setCell ⟨w.heap.size, 3, none⟩ (.int .i64 ek)).setCell ⟨w.heap.size, 4, none⟩ (.bool ef)).setCell ⟨w.heap.size, 5, none⟩ (.int .i64 ck)).setCell ⟨w.heap.size, 6, none⟩ (.int .i64 R)).setCell ⟨w.heap.size, 7, none⟩ (.int .i64 N)).setCell ⟨w.heap.size, 8, none⟩ (.int .i64 pp)).setCell ⟨w.heap.size, 9, none⟩ (.int .i64 n)).setCell ⟨w.heap.size, 10, none⟩ (.string ⟨t.toArray⟩)).setCell ⟨w.heap.size, 11, none⟩ (.bool f)).setCell ⟨w.heap.size, 12, none⟩ (.int .i64 R2)).setCell ⟨w.heap.size, 13, none⟩ (.int .i64 N2)).setCell ⟨w.heap.size + 1, 0, none⟩ (.bool (ln == l))) = w4 at *
      have xb4 := Lib.cell_of_heap b4; have xq4 := Lib.cell_of_heap q4
      refine leaves_cons (f := 23) (args := #[.pointer (some ⟨w.heap.size, 0, none⟩), .pointer (some ⟨w.heap.size + 1, 0, none⟩)]) (by simp) (by simp [go_sem]) ?_
      refine (catch_idle ⟨w.heap.size, 0, none⟩ ⟨w.heap.size + 1, 0, none⟩ w4).mono ?_
      rintro e u' w5 ⟨rfl, rfl, rfl⟩
      simp [Leaves, settle, results, Tryd.results15, go_sem, xb4, xq4]
      by_cases hll : ln = l
      · have := HP.out
        rw [if_pos ⟨by assumption, hll⟩] at this
        rw [show (ln == l) = true from beq_iff_eq.2 hll]
        exact ParsePost.good this K4
      · have := HP.out
        rw [if_neg (fun e => hll e.2)] at this
        rw [show (ln == l) = false from beq_eq_false_iff_ne.2 hll]
        exact ParsePost.bad ⟨kd, en, eto, ek, ef, ⟨ck, ⟨R, N⟩, pp, n, t, f, ⟨R2, N2⟩⟩⟩ rfl this K4
    · have b4 := heap_set_ne (heap_fill14 b3 (.int .i64 kd) (.int .i64 en) (.int .i64 eto) (.int .i64 ek) (.bool ef) (.int .i64 ck) (.int .i64 R) (.int .i64 N) (.int .i64 pp) (.int .i64 n) (.string ⟨t.toArray⟩) (.bool f) (.int .i64 R2) (.int .i64 N2)) (j := 0) (show w.heap.size ≠ w.heap.size + 1 by omega) (.bool false)
      have q4 : (((((((((((((((w3.setCell ⟨w.heap.size, 0, none⟩ (.int .i64 kd)).setCell ⟨w.heap.size, 1, none⟩ (.int .i64 en)).setCell ⟨w.heap.size, 2, none⟩ (.int .i64 eto)).setCell ⟨w.heap.size, 3, none⟩ (.int .i64 ek)).setCell ⟨w.heap.size, 4, none⟩ (.bool ef)).setCell ⟨w.heap.size, 5, none⟩ (.int .i64 ck)).setCell ⟨w.heap.size, 6, none⟩ (.int .i64 R)).setCell ⟨w.heap.size, 7, none⟩ (.int .i64 N)).setCell ⟨w.heap.size, 8, none⟩ (.int .i64 pp)).setCell ⟨w.heap.size, 9, none⟩ (.int .i64 n)).setCell ⟨w.heap.size, 10, none⟩ (.string ⟨t.toArray⟩)).setCell ⟨w.heap.size, 11, none⟩ (.bool f)).setCell ⟨w.heap.size, 12, none⟩ (.int .i64 R2)).setCell ⟨w.heap.size, 13, none⟩ (.int .i64 N2)).setCell ⟨w.heap.size + 1, 0, none⟩ (.bool false)).heap[w.heap.size + 1]? = some (.cells #[.bool false] 4 (0, 0)) := heap_set (heap_set_ne (heap_set_ne (heap_set_ne (heap_set_ne (heap_set_ne (heap_set_ne (heap_set_ne (heap_set_ne (heap_set_ne (heap_set_ne (heap_set_ne (heap_set_ne (heap_set_ne (heap_set_ne q3 (j := 0) (show w.heap.size + 1 ≠ w.heap.size by omega) (.int .i64 kd)) (j := 1) (show w.heap.size + 1 ≠ w.heap.size by omega) (.int .i64 en)) (j := 2) (show w.heap.size + 1 ≠ w.heap.size by omega) (.int .i64 eto)) (j := 3) (show w.heap.size + 1 ≠ w.heap.size by omega) (.int .i64 ek)) (j := 4) (show w.heap.size + 1 ≠ w.heap.size by omega) (.bool ef)) (j := 5) (show w.heap.size + 1 ≠ w.heap.size by omega) (.int .i64 ck)) (j := 6) (show w.heap.size + 1 ≠ w.heap.size by omega) (.int .i64 R)) (j := 7) (show w.heap.size + 1 ≠ w.heap.size by omega) (.int .i64 N)) (j := 8) (show w.heap.size + 1 ≠ w.heap.size by omega) (.int .i64 pp)) (j := 9) (show w.heap.size + 1 ≠ w.heap.size by omega) (.int .i64 n)) (j := 10) (show w.heap.size + 1 ≠ w.heap.size by omega) (.string ⟨t.toArray⟩)) (j := 11) (show w.heap.size + 1 ≠ w.heap.size by omega) (.bool f)) (j := 12) (show w.heap.size + 1 ≠ w.heap.size by omega) (.int .i64 R2)) (j := 13) (show w.heap.size + 1 ≠ w.heap.size by omega) (.int .i64 N2)) 0 (.bool false)
      have K4 := Keeps.setNew (Keeps.fill14 (K2.trans k3) (b := w.heap.size) (Nat.le_refl _) (.int .i64 kd) (.int .i64 en) (.int .i64 eto) (.int .i64 ek) (.bool ef) (.int .i64 ck) (.int .i64 R) (.int .i64 N) (.int .i64 pp) (.int .i64 n) (.string ⟨t.toArray⟩) (.bool f) (.int .i64 R2) (.int .i64 N2)) (b := w.heap.size + 1) (j := 0) (by omega) (.bool false)
      clear xb3 xq3 zb3 zq3 b3 q3
      generalize (((((((((((((((w3.setCell ⟨w.heap.size, 0, none⟩ (.int .i64 kd)).setCell ⟨w.heap.size, 1, none⟩ (.int .i64 en)).setCell ⟨w.heap.size, 2, none⟩ (.int .i64 eto)).setCell ⟨w.heap.size, 3, none⟩ (.int .i64 ek)).setCell ⟨w.heap.size, 4, none⟩ (.bool ef)).setCell ⟨w.heap.size, 5, none⟩ (.int .i64 ck)).setCell ⟨w.heap.size, 6, none⟩ (.int .i64 R)).setCell ⟨w.heap.size, 7, none⟩ (.int .i64 N)).setCell ⟨w.heap.size, 8, none⟩ (.int .i64 pp)).setCell ⟨w.heap.size, 9, none⟩ (.int .i64 n)).setCell ⟨w.heap.size, 10, none⟩ (.string ⟨t.toArray⟩)).setCell ⟨w.heap.size, 11, none⟩ (.bool f)).setCell ⟨w.heap.size, 12, none⟩ (.int .i64 R2)).setCell ⟨w.heap.size, 13, none⟩ (.int .i64 N2)).setCell ⟨w.heap.size + 1, 0, none⟩ (.bool false)) = w4 at *
      have xb4 := Lib.cell_of_heap b4; have xq4 := Lib.cell_of_heap q4
      refine leaves_cons (f := 23) (args := #[.pointer (some ⟨w.heap.size, 0, none⟩), .pointer (some ⟨w.heap.size + 1, 0, none⟩)]) (by simp) (by simp [go_sem]) ?_
      refine (catch_idle ⟨w.heap.size, 0, none⟩ ⟨w.heap.size + 1, 0, none⟩ w4).mono ?_
      rintro e u' w5 ⟨rfl, rfl, rfl⟩
      simp [Leaves, settle, results, Tryd.results15, go_sem, xb4, xq4]
      have := HP.out
      rw [if_neg (by rintro ⟨e1, -⟩; simp_all)] at this
      exact ParsePost.bad ⟨kd, en, eto, ek, ef, ⟨ck, ⟨R, N⟩, pp, n, t, f, ⟨R2, N2⟩⟩⟩ rfl this K4

end Go.Proofs.YtkpenijilnagjaaDoor
