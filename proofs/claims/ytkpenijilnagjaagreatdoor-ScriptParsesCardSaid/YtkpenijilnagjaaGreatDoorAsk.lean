/- offshootref25.ask: the command that words may tell. -/
import Derived.Test.YtkpenijilnagjaaGreatDoorRefF
import Derived.Test.YtkpenijilnagjaaGreatDoorCmd
import Derived.Deep.RegionWith
import Derived.Deep.RegionHeld3
import Derived.StillTailTactics
namespace Go.Proofs.YtkpenijilnagjaaGreatDoor
open Go.RowKit

/-- the words that ask looks at lie in memory -/
structure AskAt (g o n : Nat) (x0 x1 x2 x3 : List UInt8) (w : World) : Prop where
  few : 4 ≤ n
  lt : g < w.heap.size
  c0 : w.cell? ⟨g, o, none⟩ = some (.string ⟨x0.toArray⟩)
  c1 : w.cell? ⟨g, o + 1, none⟩ = some (.string ⟨x1.toArray⟩)
  c2 : w.cell? ⟨g, o + 2, none⟩ = some (.string ⟨x2.toArray⟩)
  c3 : w.cell? ⟨g, o + 3, none⟩ = some (.string ⟨x3.toArray⟩)
  l1 : x1.length ≤ 1000000
  l2 : x2.length ≤ 1000000
  l3 : x3.length ≤ 1000000
theorem AskAt.no {g o n : Nat} {x0 x1 x2 x3 : List UInt8} {w w' : World} (h : AskAt g o n x0 x1 x2 x3 w) (k : Keeps No w w') : AskAt g o n x0 x1 x2 x3 w' :=
  ⟨h.few, Nat.lt_of_lt_of_le h.lt k.size, (k.cell h.lt id).trans h.c0, (k.cell h.lt id).trans h.c1, (k.cell h.lt id).trans h.c2, (k.cell h.lt id).trans h.c3, h.l1, h.l2, h.l3⟩

theorem cell_fill9 {w : World} {b : Nat} {a : Addr} {x : Value} (v0 v1 v2 v3 v4 v5 v6 v7 v8 : Value) (h : w.cell? a = some x) (hn : a.block ≠ b) : (((((((((w.setCell ⟨b, 0, none⟩ v0).setCell ⟨b, 1, none⟩ v1).setCell ⟨b, 2, none⟩ v2).setCell ⟨b, 3, none⟩ v3).setCell ⟨b, 4, none⟩ v4).setCell ⟨b, 5, none⟩ v5).setCell ⟨b, 6, none⟩ v6).setCell ⟨b, 7, none⟩ v7).setCell ⟨b, 8, none⟩ v8).cell? a = some x := by
  have hs : ∀ (W : World) (j : Nat) (v : Value), W.cell? a = some x → (W.setCell ⟨b, j, none⟩ v).cell? a = some x := fun W j v hh =>
    (World.cell?_of_block (Below.heap_setCell W ⟨b, j, none⟩ v a.block hn)).trans hh
  exact hs _ _ _ (hs _ _ _ (hs _ _ _ (hs _ _ _ (hs _ _ _ (hs _ _ _ (hs _ _ _ (hs _ _ _ (hs _ _ _ h))))))))
theorem cell_fill9_drew {w : World} {b : Nat} {a : Addr} {x : Value} (v0 v1 v2 v3 v4 v5 v6 v7 v8 : Value) (h : w.cell? a = some x) (hn : a.block ≠ b) : (((((((((w.setCell ⟨b, 0, none⟩ v0).setCell ⟨b, 1, none⟩ v1).setCell ⟨b, 2, none⟩ v2).setCell ⟨b, 3, none⟩ v3).setCell ⟨b, 4, none⟩ v4).setCell ⟨b, 5, none⟩ v5).setCell ⟨b, 6, none⟩ v6).setCell ⟨b, 7, none⟩ v7).setCell ⟨b, 8, none⟩ v8).drew.cell? a = some x := by
  rw [World.cell?_drew]; exact cell_fill9 v0 v1 v2 v3 v4 v5 v6 v7 v8 h hn
theorem heap_drew {w : World} {b : Nat} {o : Obj} (h : w.heap[b]? = some o) : w.drew.heap[b]? = some o := h
theorem beq_in (x : List UInt8) : (x == [105, 110]) = decide (x = Off.sIn) := by
  unfold Off.sIn
  by_cases h : x = [105, 110]
  · rw [h]; rfl
  · rw [decide_eq_false h]; exact beq_false_of_ne h

/-- how ask ends -/
def AskPost (c : Off.Cmd) (w : World) (e : Ending) (w' : World) : Prop := e = .returned (cmdV c) ∧ Keeps No w w'

theorem res_ask {w : World} {b : Nat} {v0 v1 v2 v3 v4 v5 v6 v7 v8 : Value} {tmps : Array Value} (h : w.heap[b]? = some (.cells #[v0, v1, v2, v3, v4, v5, v6, v7, v8] 77 (0, 0)))
    (ht : tmps[2]?.getD undef = .pointer (some ⟨b, 0, none⟩)) :
    (results Tryz.f70 tmps).run Tryz.prog w = .ok (.agg #[v0, v1, v2, v3, v4, v5, v6, v7, v8]) w := by
  have c := Lib.cell_of_heap h
  simp [results, Tryz.results70, go_sem, ht, c]

set_option maxRecDepth 100000 in
set_option maxHeartbeats 4000000 in
theorem ask_new (g o n c : Nat) (x1 x2 x3 : List UInt8) (w : World) (hE : Env w) (hA : AskAt g o n [110, 101, 119] x1 x2 x3 w) :
    Calls Tryz.prog 70 #[.slice (some ⟨g, o, none⟩) n c] w (AskPost (Off.askW [Off.sNew, x1, x2, x3]) w) := by
  have hz := hE.size
  obtain ⟨hn, hg, c0, c1, c2, c3, l1, l2, l3⟩ := hA
  have n0 : 0 < n := by omega
  have n1 : (1 : Int) < (n : Int) := by omega
  have n2 : (2 : Int) < (n : Int) := by omega
  have n3 : (3 : Int) < (n : Int) := by omega
  obtain ⟨f, hf⟩ : ∃ f, (x1 == [105, 110]) = f := ⟨_, rfl⟩
  have R1 := fun w1 h => refRead_any x1 w1 h l1
  have R2 := fun w1 h => refRead_any x2 w1 h l2
  have R3 := fun w1 h => refRead_any x3 w1 h l3
  generalize hB : Off.refRead x1 = B at R1 ⊢
  generalize hD : Off.refRead x2 = D at R2 ⊢
  generalize hO : Off.refRead x3 = O at R3 ⊢
  obtain ⟨BR, BN⟩ := B
  obtain ⟨DR, DN⟩ := D
  obtain ⟨OR, ON⟩ := O
  have HB := Lib.hid hB
  have HD := Lib.hid hD
  have HO := Lib.hid hO
  clear hB hD hO
  have hf' := Lib.hid hf
  obtain ⟨a0, a1⟩ := two_boxes w (.cells #[.int .i64 0, .int .i64 0, .int .i64 0, .int .i64 0, .int .i64 0, .string ⟨#[]⟩, .bool false, .int .i64 0, .int .i64 0] 77) (.cells #[.int .i64 0, .int .i64 0, .int .i64 0, .int .i64 0, .int .i64 0, .string ⟨#[]⟩, .bool f, .int .i64 0, .int .i64 0] 77)
  have kw : Keeps No w ((w.alloc (.cells #[.int .i64 0, .int .i64 0, .int .i64 0, .int .i64 0, .int .i64 0, .string ⟨#[]⟩, .bool false, .int .i64 0, .int .i64 0] 77)).alloc (.cells #[.int .i64 0, .int .i64 0, .int .i64 0, .int .i64 0, .int .i64 0, .string ⟨#[]⟩, .bool f, .int .i64 0, .int .i64 0] 77)) := ((Keeps.refl _ _).alloc _).alloc _
  have hEw := hE.no kw
  go_enter Tryz.func70, Tryz.ntmps70
  go_wp2_with fail
  have zW : ((w.alloc (.cells #[.int .i64 0, .int .i64 0, .int .i64 0, .int .i64 0, .int .i64 0, .string ⟨#[]⟩, .bool false, .int .i64 0, .int .i64 0] 77)).alloc (.cells #[.int .i64 0, .int .i64 0, .int .i64 0, .int .i64 0, .int .i64 0, .string ⟨#[]⟩, .bool f, .int .i64 0, .int .i64 0] 77)).heap.size = w.heap.size + 2 := by simp
  generalize (w.alloc (.cells #[.int .i64 0, .int .i64 0, .int .i64 0, .int .i64 0, .int .i64 0, .string ⟨#[]⟩, .bool false, .int .i64 0, .int .i64 0] 77)).alloc (.cells #[.int .i64 0, .int .i64 0, .int .i64 0, .int .i64 0, .int .i64 0, .string ⟨#[]⟩, .bool f, .int .i64 0, .int .i64 0] 77) = W0 at a0 a1 kw hEw zW ⊢
  refine (R1 _ hEw).mono ?_
  rintro e W1 ⟨o1, rfl, k1⟩
  have K1 := kw.trans k1
  have p0 := k1.heap a0 id
  have p1 := k1.heap a1 id
  have e1 := hE.no K1
  have z1 : w.heap.size + 2 ≤ W1.heap.size := by have := k1.size; omega
  clear zW
  clear R1 a0 a1 kw hEw k1
  have q2 : (W1.alloc (.cells #[.int .i64 BR, .int .i64 BN] 34)).heap[W1.heap.size]? = some (.cells #[.int .i64 BR, .int .i64 BN] 34 (0, 0)) := heap_alloc_new _ _
  have q0 := heap_alloc_keep p0 (.cells #[.int .i64 BR, .int .i64 BN] 34)
  have q1 := heap_alloc_keep p1 (.cells #[.int .i64 BR, .int .i64 BN] 34)
  have kq : Keeps No w (W1.alloc (.cells #[.int .i64 BR, .int .i64 BN] 34)) := K1.alloc _
  have eq := e1.alloc (.cells #[.int .i64 BR, .int .i64 BN] 34)
  have d2 : (W1.alloc (.cells #[.int .i64 BR, .int .i64 BN] 34)).cell? ⟨g, o + 2, none⟩ = _ := (kq.cell hg id).trans c2
  go_wp2_with fail
  obtain ⟨b4, hb4⟩ : ∃ b, b = W1.heap.size := ⟨_, rfl⟩
  rw [← hb4] at q2 z1 ⊢
  have hl4 : b4 < (W1.alloc (.cells #[.int .i64 BR, .int .i64 BN] 34)).heap.size := by rw [hb4]; simp
  generalize W1.alloc (.cells #[.int .i64 BR, .int .i64 BN] 34) = W2 at q0 q1 q2 kq eq hl4 ⊢
  clear hb4 d2 p0 p1 e1 K1
  refine (R2 _ eq).mono ?_
  rintro e W3 ⟨o2, rfl, k2⟩
  have K3 := kq.trans k2
  have r0 := k2.heap q0 id
  have r1 := k2.heap q1 id
  have r2 := k2.heap q2 id
  have e3 := hE.no K3
  have z3 := k2.size
  clear R2 q0 q1 q2 kq eq k2
  have s3 : (W3.alloc (.cells #[.int .i64 DR, .int .i64 DN] 34)).heap[W3.heap.size]? = some (.cells #[.int .i64 DR, .int .i64 DN] 34 (0, 0)) := heap_alloc_new _ _
  have s0 := heap_alloc_keep r0 (.cells #[.int .i64 DR, .int .i64 DN] 34)
  have s1 := heap_alloc_keep r1 (.cells #[.int .i64 DR, .int .i64 DN] 34)
  have s2 := heap_alloc_keep r2 (.cells #[.int .i64 DR, .int .i64 DN] 34)
  have ks : Keeps No w (W3.alloc (.cells #[.int .i64 DR, .int .i64 DN] 34)) := K3.alloc _
  have es := e3.alloc (.cells #[.int .i64 DR, .int .i64 DN] 34)
  have d3 : (W3.alloc (.cells #[.int .i64 DR, .int .i64 DN] 34)).cell? ⟨g, o + 3, none⟩ = _ := (ks.cell hg id).trans c3
  go_wp2_with fail
  obtain ⟨b6, hb6⟩ : ∃ b, b = W3.heap.size := ⟨_, rfl⟩
  rw [← hb6] at s3 z3 ⊢
  have hl6 : b6 < (W3.alloc (.cells #[.int .i64 DR, .int .i64 DN] 34)).heap.size := by rw [hb6]; simp
  generalize W3.alloc (.cells #[.int .i64 DR, .int .i64 DN] 34) = W4 at s0 s1 s2 s3 ks es hl6 ⊢
  clear hb6 d3 r0 r1 r2 e3 K3
  refine (R3 _ es).mono ?_
  rintro e W5 ⟨o3, rfl, k3⟩
  have K5 := ks.trans k3
  have t0 := k3.heap s0 id
  have t1 := k3.heap s1 id
  have t2 := k3.heap s2 id
  have t3 := k3.heap s3 id
  have z5 := k3.size
  clear R3 s0 s1 s2 s3 ks es k3
  have u4 : (W5.alloc (.cells #[.int .i64 OR, .int .i64 ON] 34)).heap[W5.heap.size]? = some (.cells #[.int .i64 OR, .int .i64 ON] 34 (0, 0)) := heap_alloc_new _ _
  have u0 := heap_alloc_keep t0 (.cells #[.int .i64 OR, .int .i64 ON] 34)
  have u1 := heap_alloc_keep t1 (.cells #[.int .i64 OR, .int .i64 ON] 34)
  have u2 := heap_alloc_keep t2 (.cells #[.int .i64 OR, .int .i64 ON] 34)
  have u3 := heap_alloc_keep t3 (.cells #[.int .i64 OR, .int .i64 ON] 34)
  have ku : Keeps No w (W5.alloc (.cells #[.int .i64 OR, .int .i64 ON] 34)) := K5.alloc _
  have d0 : (W5.alloc (.cells #[.int .i64 OR, .int .i64 ON] 34)).cell? ⟨g, o, none⟩ = _ := (ku.cell hg id).trans c0
  have d1 : (W5.alloc (.cells #[.int .i64 OR, .int .i64 ON] 34)).cell? ⟨g, o + 1, none⟩ = _ := (ku.cell hg id).trans c1
  have d2 : (W5.alloc (.cells #[.int .i64 OR, .int .i64 ON] 34)).cell? ⟨g, o + 2, none⟩ = _ := (ku.cell hg id).trans c2
  have d3 : (W5.alloc (.cells #[.int .i64 OR, .int .i64 ON] 34)).cell? ⟨g, o + 3, none⟩ = _ := (ku.cell hg id).trans c3
  have g0 := Lib.cell_of_heap u0
  have f0 := Lib.frozen_of_heap u0
  have g1 := Lib.cell_of_heap u1
  have f1 := Lib.frozen_of_heap u1
  have g2 := Lib.cell_of_heap u2
  have g3 := Lib.cell_of_heap u3
  have g4 := Lib.cell_of_heap u4
  have ne1 : w.heap.size ≠ w.heap.size + 1 := by omega
  have ne2 : w.heap.size + 1 ≠ w.heap.size := by omega
  have ne3 : ¬ b4 = w.heap.size + 1 := by omega
  have ne4 : ¬ b6 = w.heap.size + 1 := by omega
  have ne5 : ¬ W5.heap.size = w.heap.size + 1 := by omega
  have ne6 : ¬ w.heap.size + 1 = b4 := by omega
  have ne7 : ¬ w.heap.size + 1 = b6 := by omega
  have ne8 : ¬ w.heap.size + 1 = W5.heap.size := by omega
  have ne9 : b4 ≠ w.heap.size := by omega
  have ne10 : b6 ≠ w.heap.size := by omega
  have ne11 : g ≠ w.heap.size := by omega
  have P3 := fun w1 => refPlain_any x3 w1 l3
  generalize hP : Off.refPlain x3 = T at P3
  have HP := Lib.hid hP
  clear hP
  have hff : Hid (decide (x1 = Off.sIn) = f) := by show _ = _; rw [← hf'.out]; exact (beq_in x1).symm
  go_wp2_with fail
  have v0 := heap_set_ne (heap_set_ne (heap_set_ne u0 (j := 0) ne1 (.int .i64 1)) (j := 1) ne1 (.int .i64 DR)) (j := 2) ne1 (.int .i64 DN)
  have v1 := heap_set (heap_set (heap_set u1 0 (.int .i64 1)) 1 (.int .i64 DR)) 2 (.int .i64 DN)
  have kv := ((ku.setNew (b := w.heap.size + 1) (j := 0) (by omega) (.int .i64 1)).setNew (b := w.heap.size + 1) (j := 1) (by omega) (.int .i64 DR)).setNew (b := w.heap.size + 1) (j := 2) (by omega) (.int .i64 DN)
  refine (P3 _).mono ?_
  rintro e w9 ⟨rfl, k9⟩
  have y0 : w9.heap[w.heap.size]? = some (.cells #[.int .i64 0, .int .i64 0, .int .i64 0, .int .i64 0, .int .i64 0, .string ⟨#[]⟩, .bool false, .int .i64 0, .int .i64 0] 77 (0, 0)) := k9.heap v0 id
  have y1 : w9.heap[w.heap.size + 1]? = some (.cells #[.int .i64 1, .int .i64 DR, .int .i64 DN, .int .i64 0, .int .i64 0, .string ⟨#[]⟩, .bool f, .int .i64 0, .int .i64 0] 77 (0, 0)) := k9.heap (by simpa using v1) id
  have K9 := kv.trans k9
  clear g0 f0 g1 f1 g2 g3 g4 v0 v1 kv
  have x0 := Lib.cell_of_heap y0
  have x0' := Lib.frozen_of_heap y0
  have x1' := Lib.cell_of_heap y1
  have x1'' := Lib.frozen_of_heap y1
  go_wp2
  have z0 := heap_set_ne y0 (j := 5) ne1 (.string ⟨T.toArray⟩)
  have kz := K9.setNew (b := w.heap.size + 1) (j := 5) (by omega) (.string ⟨T.toArray⟩)
  have v9 := heap_fill9 z0 (.int .i64 1) (.int .i64 DR) (.int .i64 DN) (.int .i64 0) (.int .i64 0) (.string ⟨T.toArray⟩) (.bool f) (.int .i64 0) (.int .i64 0)
  refine bodyPost_ret (res_ask v9 rfl) rfl ⟨?_, Keeps.fill9 kz (Nat.le_refl _) _ _ _ _ _ _ _ _ _⟩
  show _ = Ending.returned (cmdV ⟨1, Off.refRead x2, 0, 0, Off.refPlain x3, decide (x1 = Off.sIn), .z⟩)
  rw [HD.out, HP.out, hff.out]
  first | done | rfl

set_option maxRecDepth 100000 in
set_option maxHeartbeats 4000000 in
theorem ask_move (g o n c : Nat) (x1 x2 x3 : List UInt8) (w : World) (hE : Env w) (hA : AskAt g o n [109, 111, 118, 101] x1 x2 x3 w) :
    Calls Tryz.prog 70 #[.slice (some ⟨g, o, none⟩) n c] w (AskPost (Off.askW [Off.sMove, x1, x2, x3]) w) := by
  have hz := hE.size
  obtain ⟨hn, hg, c0, c1, c2, c3, l1, l2, l3⟩ := hA
  have n0 : 0 < n := by omega
  have n1 : (1 : Int) < (n : Int) := by omega
  have n2 : (2 : Int) < (n : Int) := by omega
  have n3 : (3 : Int) < (n : Int) := by omega
  obtain ⟨f, hf⟩ : ∃ f, (x1 == [105, 110]) = f := ⟨_, rfl⟩
  have R1 := fun w1 h => refRead_any x1 w1 h l1
  have R2 := fun w1 h => refRead_any x2 w1 h l2
  have R3 := fun w1 h => refRead_any x3 w1 h l3
  generalize hB : Off.refRead x1 = B at R1 ⊢
  generalize hD : Off.refRead x2 = D at R2 ⊢
  generalize hO : Off.refRead x3 = O at R3 ⊢
  obtain ⟨BR, BN⟩ := B
  obtain ⟨DR, DN⟩ := D
  obtain ⟨OR, ON⟩ := O
  have HB := Lib.hid hB
  have HD := Lib.hid hD
  have HO := Lib.hid hO
  clear hB hD hO
  have hf' := Lib.hid hf
  obtain ⟨a0, a1⟩ := two_boxes w (.cells #[.int .i64 0, .int .i64 0, .int .i64 0, .int .i64 0, .int .i64 0, .string ⟨#[]⟩, .bool false, .int .i64 0, .int .i64 0] 77) (.cells #[.int .i64 0, .int .i64 0, .int .i64 0, .int .i64 0, .int .i64 0, .string ⟨#[]⟩, .bool f, .int .i64 0, .int .i64 0] 77)
  have kw : Keeps No w ((w.alloc (.cells #[.int .i64 0, .int .i64 0, .int .i64 0, .int .i64 0, .int .i64 0, .string ⟨#[]⟩, .bool false, .int .i64 0, .int .i64 0] 77)).alloc (.cells #[.int .i64 0, .int .i64 0, .int .i64 0, .int .i64 0, .int .i64 0, .string ⟨#[]⟩, .bool f, .int .i64 0, .int .i64 0] 77)) := ((Keeps.refl _ _).alloc _).alloc _
  have hEw := hE.no kw
  go_enter Tryz.func70, Tryz.ntmps70
  go_wp2_with fail
  have zW : ((w.alloc (.cells #[.int .i64 0, .int .i64 0, .int .i64 0, .int .i64 0, .int .i64 0, .string ⟨#[]⟩, .bool false, .int .i64 0, .int .i64 0] 77)).alloc (.cells #[.int .i64 0, .int .i64 0, .int .i64 0, .int .i64 0, .int .i64 0, .string ⟨#[]⟩, .bool f, .int .i64 0, .int .i64 0] 77)).heap.size = w.heap.size + 2 := by simp
  generalize (w.alloc (.cells #[.int .i64 0, .int .i64 0, .int .i64 0, .int .i64 0, .int .i64 0, .string ⟨#[]⟩, .bool false, .int .i64 0, .int .i64 0] 77)).alloc (.cells #[.int .i64 0, .int .i64 0, .int .i64 0, .int .i64 0, .int .i64 0, .string ⟨#[]⟩, .bool f, .int .i64 0, .int .i64 0] 77) = W0 at a0 a1 kw hEw zW ⊢
  refine (R1 _ hEw).mono ?_
  rintro e W1 ⟨o1, rfl, k1⟩
  have K1 := kw.trans k1
  have p0 := k1.heap a0 id
  have p1 := k1.heap a1 id
  have e1 := hE.no K1
  have z1 : w.heap.size + 2 ≤ W1.heap.size := by have := k1.size; omega
  clear zW
  clear R1 a0 a1 kw hEw k1
  have q2 : (W1.alloc (.cells #[.int .i64 BR, .int .i64 BN] 34)).heap[W1.heap.size]? = some (.cells #[.int .i64 BR, .int .i64 BN] 34 (0, 0)) := heap_alloc_new _ _
  have q0 := heap_alloc_keep p0 (.cells #[.int .i64 BR, .int .i64 BN] 34)
  have q1 := heap_alloc_keep p1 (.cells #[.int .i64 BR, .int .i64 BN] 34)
  have kq : Keeps No w (W1.alloc (.cells #[.int .i64 BR, .int .i64 BN] 34)) := K1.alloc _
  have eq := e1.alloc (.cells #[.int .i64 BR, .int .i64 BN] 34)
  have d2 : (W1.alloc (.cells #[.int .i64 BR, .int .i64 BN] 34)).cell? ⟨g, o + 2, none⟩ = _ := (kq.cell hg id).trans c2
  go_wp2_with fail
  obtain ⟨b4, hb4⟩ : ∃ b, b = W1.heap.size := ⟨_, rfl⟩
  rw [← hb4] at q2 z1 ⊢
  have hl4 : b4 < (W1.alloc (.cells #[.int .i64 BR, .int .i64 BN] 34)).heap.size := by rw [hb4]; simp
  generalize W1.alloc (.cells #[.int .i64 BR, .int .i64 BN] 34) = W2 at q0 q1 q2 kq eq hl4 ⊢
  clear hb4 d2 p0 p1 e1 K1
  refine (R2 _ eq).mono ?_
  rintro e W3 ⟨o2, rfl, k2⟩
  have K3 := kq.trans k2
  have r0 := k2.heap q0 id
  have r1 := k2.heap q1 id
  have r2 := k2.heap q2 id
  have e3 := hE.no K3
  have z3 := k2.size
  clear R2 q0 q1 q2 kq eq k2
  have s3 : (W3.alloc (.cells #[.int .i64 DR, .int .i64 DN] 34)).heap[W3.heap.size]? = some (.cells #[.int .i64 DR, .int .i64 DN] 34 (0, 0)) := heap_alloc_new _ _
  have s0 := heap_alloc_keep r0 (.cells #[.int .i64 DR, .int .i64 DN] 34)
  have s1 := heap_alloc_keep r1 (.cells #[.int .i64 DR, .int .i64 DN] 34)
  have s2 := heap_alloc_keep r2 (.cells #[.int .i64 DR, .int .i64 DN] 34)
  have ks : Keeps No w (W3.alloc (.cells #[.int .i64 DR, .int .i64 DN] 34)) := K3.alloc _
  have es := e3.alloc (.cells #[.int .i64 DR, .int .i64 DN] 34)
  have d3 : (W3.alloc (.cells #[.int .i64 DR, .int .i64 DN] 34)).cell? ⟨g, o + 3, none⟩ = _ := (ks.cell hg id).trans c3
  go_wp2_with fail
  obtain ⟨b6, hb6⟩ : ∃ b, b = W3.heap.size := ⟨_, rfl⟩
  rw [← hb6] at s3 z3 ⊢
  have hl6 : b6 < (W3.alloc (.cells #[.int .i64 DR, .int .i64 DN] 34)).heap.size := by rw [hb6]; simp
  generalize W3.alloc (.cells #[.int .i64 DR, .int .i64 DN] 34) = W4 at s0 s1 s2 s3 ks es hl6 ⊢
  clear hb6 d3 r0 r1 r2 e3 K3
  refine (R3 _ es).mono ?_
  rintro e W5 ⟨o3, rfl, k3⟩
  have K5 := ks.trans k3
  have t0 := k3.heap s0 id
  have t1 := k3.heap s1 id
  have t2 := k3.heap s2 id
  have t3 := k3.heap s3 id
  have z5 := k3.size
  clear R3 s0 s1 s2 s3 ks es k3
  have u4 : (W5.alloc (.cells #[.int .i64 OR, .int .i64 ON] 34)).heap[W5.heap.size]? = some (.cells #[.int .i64 OR, .int .i64 ON] 34 (0, 0)) := heap_alloc_new _ _
  have u0 := heap_alloc_keep t0 (.cells #[.int .i64 OR, .int .i64 ON] 34)
  have u1 := heap_alloc_keep t1 (.cells #[.int .i64 OR, .int .i64 ON] 34)
  have u2 := heap_alloc_keep t2 (.cells #[.int .i64 OR, .int .i64 ON] 34)
  have u3 := heap_alloc_keep t3 (.cells #[.int .i64 OR, .int .i64 ON] 34)
  have ku : Keeps No w (W5.alloc (.cells #[.int .i64 OR, .int .i64 ON] 34)) := K5.alloc _
  have d0 : (W5.alloc (.cells #[.int .i64 OR, .int .i64 ON] 34)).cell? ⟨g, o, none⟩ = _ := (ku.cell hg id).trans c0
  have d1 : (W5.alloc (.cells #[.int .i64 OR, .int .i64 ON] 34)).cell? ⟨g, o + 1, none⟩ = _ := (ku.cell hg id).trans c1
  have d2 : (W5.alloc (.cells #[.int .i64 OR, .int .i64 ON] 34)).cell? ⟨g, o + 2, none⟩ = _ := (ku.cell hg id).trans c2
  have d3 : (W5.alloc (.cells #[.int .i64 OR, .int .i64 ON] 34)).cell? ⟨g, o + 3, none⟩ = _ := (ku.cell hg id).trans c3
  have g0 := Lib.cell_of_heap u0
  have f0 := Lib.frozen_of_heap u0
  have g1 := Lib.cell_of_heap u1
  have f1 := Lib.frozen_of_heap u1
  have g2 := Lib.cell_of_heap u2
  have g3 := Lib.cell_of_heap u3
  have g4 := Lib.cell_of_heap u4
  have ne1 : w.heap.size ≠ w.heap.size + 1 := by omega
  have ne2 : w.heap.size + 1 ≠ w.heap.size := by omega
  have ne3 : ¬ b4 = w.heap.size + 1 := by omega
  have ne4 : ¬ b6 = w.heap.size + 1 := by omega
  have ne5 : ¬ W5.heap.size = w.heap.size + 1 := by omega
  have ne6 : ¬ w.heap.size + 1 = b4 := by omega
  have ne7 : ¬ w.heap.size + 1 = b6 := by omega
  have ne8 : ¬ w.heap.size + 1 = W5.heap.size := by omega
  have ne9 : b4 ≠ w.heap.size := by omega
  have ne10 : b6 ≠ w.heap.size := by omega
  have ne11 : g ≠ w.heap.size := by omega
  go_wp2
  have v0 := heap_set_ne (heap_set_ne (heap_set_ne (heap_set_ne (heap_set_ne u0 (j := 0) ne1 (.int .i64 13)) (j := 1) ne1 (.int .i64 DR)) (j := 2) ne1 (.int .i64 DN)) (j := 7) ne1 (.int .i64 OR)) (j := 8) ne1 (.int .i64 ON)
  have kv := ((((ku.setNew (b := w.heap.size + 1) (j := 0) (by omega) (.int .i64 13)).setNew (b := w.heap.size + 1) (j := 1) (by omega) (.int .i64 DR)).setNew (b := w.heap.size + 1) (j := 2) (by omega) (.int .i64 DN)).setNew (b := w.heap.size + 1) (j := 7) (by omega) (.int .i64 OR)).setNew (b := w.heap.size + 1) (j := 8) (by omega) (.int .i64 ON)
  have hff : decide (x1 = Off.sIn) = f := by rw [← hf'.out]; exact (beq_in x1).symm
  have v9 := heap_fill9 v0 (.int .i64 13) (.int .i64 DR) (.int .i64 DN) (.int .i64 0) (.int .i64 0) (.string ⟨#[]⟩) (.bool f) (.int .i64 OR) (.int .i64 ON)
  refine bodyPost_ret (res_ask v9 rfl) rfl ⟨?_, Keeps.fill9 kv (Nat.le_refl _) _ _ _ _ _ _ _ _ _⟩
  show _ = Ending.returned (cmdV ⟨13, Off.refRead x2, 0, 0, [], decide (x1 = Off.sIn), Off.refRead x3⟩)
  rw [HD.out, HO.out, hff]
  first | done | rfl

set_option maxRecDepth 100000 in
set_option maxHeartbeats 4000000 in
theorem ask_type (g o n c : Nat) (x1 x2 x3 : List UInt8) (w : World) (hE : Env w) (hA : AskAt g o n [116, 121, 112, 101] x1 x2 x3 w) :
    Calls Tryz.prog 70 #[.slice (some ⟨g, o, none⟩) n c] w (AskPost (Off.askW [Off.sType, x1, x2, x3]) w) := by
  have hz := hE.size
  obtain ⟨hn, hg, c0, c1, c2, c3, l1, l2, l3⟩ := hA
  have n0 : 0 < n := by omega
  have n1 : (1 : Int) < (n : Int) := by omega
  have n2 : (2 : Int) < (n : Int) := by omega
  have n3 : (3 : Int) < (n : Int) := by omega
  obtain ⟨f, hf⟩ : ∃ f, (x1 == [105, 110]) = f := ⟨_, rfl⟩
  have R1 := fun w1 h => refRead_any x1 w1 h l1
  have R2 := fun w1 h => refRead_any x2 w1 h l2
  have R3 := fun w1 h => refRead_any x3 w1 h l3
  generalize hB : Off.refRead x1 = B at R1 ⊢
  generalize hD : Off.refRead x2 = D at R2 ⊢
  generalize hO : Off.refRead x3 = O at R3 ⊢
  obtain ⟨BR, BN⟩ := B
  obtain ⟨DR, DN⟩ := D
  obtain ⟨OR, ON⟩ := O
  have HB := Lib.hid hB
  have HD := Lib.hid hD
  have HO := Lib.hid hO
  clear hB hD hO
  have hf' := Lib.hid hf
  obtain ⟨a0, a1⟩ := two_boxes w (.cells #[.int .i64 0, .int .i64 0, .int .i64 0, .int .i64 0, .int .i64 0, .string ⟨#[]⟩, .bool false, .int .i64 0, .int .i64 0] 77) (.cells #[.int .i64 0, .int .i64 0, .int .i64 0, .int .i64 0, .int .i64 0, .string ⟨#[]⟩, .bool f, .int .i64 0, .int .i64 0] 77)
  have kw : Keeps No w ((w.alloc (.cells #[.int .i64 0, .int .i64 0, .int .i64 0, .int .i64 0, .int .i64 0, .string ⟨#[]⟩, .bool false, .int .i64 0, .int .i64 0] 77)).alloc (.cells #[.int .i64 0, .int .i64 0, .int .i64 0, .int .i64 0, .int .i64 0, .string ⟨#[]⟩, .bool f, .int .i64 0, .int .i64 0] 77)) := ((Keeps.refl _ _).alloc _).alloc _
  have hEw := hE.no kw
  go_enter Tryz.func70, Tryz.ntmps70
  go_wp2_with fail
  have zW : ((w.alloc (.cells #[.int .i64 0, .int .i64 0, .int .i64 0, .int .i64 0, .int .i64 0, .string ⟨#[]⟩, .bool false, .int .i64 0, .int .i64 0] 77)).alloc (.cells #[.int .i64 0, .int .i64 0, .int .i64 0, .int .i64 0, .int .i64 0, .string ⟨#[]⟩, .bool f, .int .i64 0, .int .i64 0] 77)).heap.size = w.heap.size + 2 := by simp
  generalize (w.alloc (.cells #[.int .i64 0, .int .i64 0, .int .i64 0, .int .i64 0, .int .i64 0, .string ⟨#[]⟩, .bool false, .int .i64 0, .int .i64 0] 77)).alloc (.cells #[.int .i64 0, .int .i64 0, .int .i64 0, .int .i64 0, .int .i64 0, .string ⟨#[]⟩, .bool f, .int .i64 0, .int .i64 0] 77) = W0 at a0 a1 kw hEw zW ⊢
  refine (R1 _ hEw).mono ?_
  rintro e W1 ⟨o1, rfl, k1⟩
  have K1 := kw.trans k1
  have p0 := k1.heap a0 id
  have p1 := k1.heap a1 id
  have e1 := hE.no K1
  have z1 : w.heap.size + 2 ≤ W1.heap.size := by have := k1.size; omega
  clear zW
  clear R1 a0 a1 kw hEw k1
  have q2 : (W1.alloc (.cells #[.int .i64 BR, .int .i64 BN] 34)).heap[W1.heap.size]? = some (.cells #[.int .i64 BR, .int .i64 BN] 34 (0, 0)) := heap_alloc_new _ _
  have q0 := heap_alloc_keep p0 (.cells #[.int .i64 BR, .int .i64 BN] 34)
  have q1 := heap_alloc_keep p1 (.cells #[.int .i64 BR, .int .i64 BN] 34)
  have kq : Keeps No w (W1.alloc (.cells #[.int .i64 BR, .int .i64 BN] 34)) := K1.alloc _
  have eq := e1.alloc (.cells #[.int .i64 BR, .int .i64 BN] 34)
  have d2 : (W1.alloc (.cells #[.int .i64 BR, .int .i64 BN] 34)).cell? ⟨g, o + 2, none⟩ = _ := (kq.cell hg id).trans c2
  go_wp2_with fail
  obtain ⟨b4, hb4⟩ : ∃ b, b = W1.heap.size := ⟨_, rfl⟩
  rw [← hb4] at q2 z1 ⊢
  have hl4 : b4 < (W1.alloc (.cells #[.int .i64 BR, .int .i64 BN] 34)).heap.size := by rw [hb4]; simp
  generalize W1.alloc (.cells #[.int .i64 BR, .int .i64 BN] 34) = W2 at q0 q1 q2 kq eq hl4 ⊢
  clear hb4 d2 p0 p1 e1 K1
  refine (R2 _ eq).mono ?_
  rintro e W3 ⟨o2, rfl, k2⟩
  have K3 := kq.trans k2
  have r0 := k2.heap q0 id
  have r1 := k2.heap q1 id
  have r2 := k2.heap q2 id
  have e3 := hE.no K3
  have z3 := k2.size
  clear R2 q0 q1 q2 kq eq k2
  have s3 : (W3.alloc (.cells #[.int .i64 DR, .int .i64 DN] 34)).heap[W3.heap.size]? = some (.cells #[.int .i64 DR, .int .i64 DN] 34 (0, 0)) := heap_alloc_new _ _
  have s0 := heap_alloc_keep r0 (.cells #[.int .i64 DR, .int .i64 DN] 34)
  have s1 := heap_alloc_keep r1 (.cells #[.int .i64 DR, .int .i64 DN] 34)
  have s2 := heap_alloc_keep r2 (.cells #[.int .i64 DR, .int .i64 DN] 34)
  have ks : Keeps No w (W3.alloc (.cells #[.int .i64 DR, .int .i64 DN] 34)) := K3.alloc _
  have es := e3.alloc (.cells #[.int .i64 DR, .int .i64 DN] 34)
  have d3 : (W3.alloc (.cells #[.int .i64 DR, .int .i64 DN] 34)).cell? ⟨g, o + 3, none⟩ = _ := (ks.cell hg id).trans c3
  go_wp2_with fail
  obtain ⟨b6, hb6⟩ : ∃ b, b = W3.heap.size := ⟨_, rfl⟩
  rw [← hb6] at s3 z3 ⊢
  have hl6 : b6 < (W3.alloc (.cells #[.int .i64 DR, .int .i64 DN] 34)).heap.size := by rw [hb6]; simp
  generalize W3.alloc (.cells #[.int .i64 DR, .int .i64 DN] 34) = W4 at s0 s1 s2 s3 ks es hl6 ⊢
  clear hb6 d3 r0 r1 r2 e3 K3
  refine (R3 _ es).mono ?_
  rintro e W5 ⟨o3, rfl, k3⟩
  have K5 := ks.trans k3
  have t0 := k3.heap s0 id
  have t1 := k3.heap s1 id
  have t2 := k3.heap s2 id
  have t3 := k3.heap s3 id
  have z5 := k3.size
  clear R3 s0 s1 s2 s3 ks es k3
  have u4 : (W5.alloc (.cells #[.int .i64 OR, .int .i64 ON] 34)).heap[W5.heap.size]? = some (.cells #[.int .i64 OR, .int .i64 ON] 34 (0, 0)) := heap_alloc_new _ _
  have u0 := heap_alloc_keep t0 (.cells #[.int .i64 OR, .int .i64 ON] 34)
  have u1 := heap_alloc_keep t1 (.cells #[.int .i64 OR, .int .i64 ON] 34)
  have u2 := heap_alloc_keep t2 (.cells #[.int .i64 OR, .int .i64 ON] 34)
  have u3 := heap_alloc_keep t3 (.cells #[.int .i64 OR, .int .i64 ON] 34)
  have ku : Keeps No w (W5.alloc (.cells #[.int .i64 OR, .int .i64 ON] 34)) := K5.alloc _
  have d0 : (W5.alloc (.cells #[.int .i64 OR, .int .i64 ON] 34)).cell? ⟨g, o, none⟩ = _ := (ku.cell hg id).trans c0
  have d1 : (W5.alloc (.cells #[.int .i64 OR, .int .i64 ON] 34)).cell? ⟨g, o + 1, none⟩ = _ := (ku.cell hg id).trans c1
  have d2 : (W5.alloc (.cells #[.int .i64 OR, .int .i64 ON] 34)).cell? ⟨g, o + 2, none⟩ = _ := (ku.cell hg id).trans c2
  have d3 : (W5.alloc (.cells #[.int .i64 OR, .int .i64 ON] 34)).cell? ⟨g, o + 3, none⟩ = _ := (ku.cell hg id).trans c3
  have g0 := Lib.cell_of_heap u0
  have f0 := Lib.frozen_of_heap u0
  have g1 := Lib.cell_of_heap u1
  have f1 := Lib.frozen_of_heap u1
  have g2 := Lib.cell_of_heap u2
  have g3 := Lib.cell_of_heap u3
  have g4 := Lib.cell_of_heap u4
  have ne1 : w.heap.size ≠ w.heap.size + 1 := by omega
  have ne2 : w.heap.size + 1 ≠ w.heap.size := by omega
  have ne3 : ¬ b4 = w.heap.size + 1 := by omega
  have ne4 : ¬ b6 = w.heap.size + 1 := by omega
  have ne5 : ¬ W5.heap.size = w.heap.size + 1 := by omega
  have ne6 : ¬ w.heap.size + 1 = b4 := by omega
  have ne7 : ¬ w.heap.size + 1 = b6 := by omega
  have ne8 : ¬ w.heap.size + 1 = W5.heap.size := by omega
  have ne9 : b4 ≠ w.heap.size := by omega
  have ne10 : b6 ≠ w.heap.size := by omega
  have ne11 : g ≠ w.heap.size := by omega
  have V2 := fun w1 => refValue_same x2 w1 l2
  generalize hV2 : Off.value x2 = V2v at V2
  have HV2 := Lib.hid hV2
  clear hV2
  have P3 := fun w1 => refPlain_any x3 w1 l3
  generalize hP : Off.refPlain x3 = T at P3
  have HP := Lib.hid hP
  clear hP
  have hgW : g < (W5.alloc (.cells #[.int .i64 OR, .int .i64 ON] 34)).heap.size := Nat.lt_of_lt_of_le hg ku.size
  have L4 : b4 < (W5.alloc (.cells #[.int .i64 OR, .int .i64 ON] 34)).heap.size := heap_lt u2
  have L6 : b6 < (W5.alloc (.cells #[.int .i64 OR, .int .i64 ON] 34)).heap.size := heap_lt u3
  have S0 : (W5.alloc (.cells #[.int .i64 OR, .int .i64 ON] 34)).cell? ⟨b4, 0, none⟩ = some (.int .i64 BR) := g2 0
  have S1 : (W5.alloc (.cells #[.int .i64 OR, .int .i64 ON] 34)).cell? ⟨b4, 1, none⟩ = some (.int .i64 BN) := g2 1
  go_wp2
  go_region_held3 (fun w' => w'.cell? ⟨b4, 0, none⟩ = some (.int .i64 BR) ∧ w'.cell? ⟨b4, 1, none⟩ = some (.int .i64 BN) ∧ w'.cell? ⟨g, o + 2, none⟩ = some (.string ⟨x2.toArray⟩) ∧ w'.cell? ⟨g, o + 3, none⟩ = some (.string ⟨x3.toArray⟩))
    (first | (refine ⟨?_, ?_, ?_, ?_⟩ <;> (with_reducible exact cell_fill9_drew _ _ _ _ _ _ _ _ _ (by assumption) (by assumption))) | go_keep | (refine ⟨?_, ?_, ?_, ?_⟩ <;> (first | (with_reducible exact cell_fill9_drew _ _ _ _ _ _ _ _ _ (by assumption) (by assumption)) | (go_keep; done) | (rw [k9.cell L4 id]; assumption) | (rw [k9.cell L6 id]; assumption) | (rw [k9.cell hgW id]; assumption) | ((with_reducible refine cell_fill9 _ _ _ _ _ _ _ _ _ ?_ (by assumption)); first | (rw [k9.cell L4 id]; assumption) | (rw [k9.cell L6 id]; assumption) | (rw [k9.cell hgW id]; assumption)))))
    (first
    | (go_at_call 69; refine (V2 _).mono ?_; rintro e w8 ⟨rfl, rfl⟩)
    | (go_at_call 111; refine (P3 _).mono ?_; rintro e w9 ⟨rfl, k9⟩; have v0 := k9.heap u0 id; have y0 := Lib.cell_of_heap v0; have y1 := Lib.frozen_of_heap v0; have K9 := Keeps.trans ku.drew k9))
  all_goals
    go_wp2
    have v9 := heap_fill9 v0 (.int .i64 2) (.int .i64 BR) (.int .i64 BN) (.int .i64 V2v) (.int .i64 0) (.string ⟨T.toArray⟩) (.bool false) (.int .i64 0) (.int .i64 0)
    refine bodyPost_ret (res_ask v9 rfl) rfl ⟨?_, Keeps.fill9 K9 (Nat.le_refl _) _ _ _ _ _ _ _ _ _⟩
    show _ = Ending.returned (cmdV ⟨2, Off.refRead x1, Off.value x2, 0, Off.refPlain x3, false, .z⟩)
    rw [HB.out, HV2.out, HP.out]
    first | done | rfl

set_option maxRecDepth 100000 in
set_option maxHeartbeats 4000000 in
theorem ask_erase (g o n c : Nat) (x1 x2 x3 : List UInt8) (w : World) (hE : Env w) (hA : AskAt g o n [101, 114, 97, 115, 101] x1 x2 x3 w) :
    Calls Tryz.prog 70 #[.slice (some ⟨g, o, none⟩) n c] w (AskPost (Off.askW [Off.sErase, x1, x2, x3]) w) := by
  have hz := hE.size
  obtain ⟨hn, hg, c0, c1, c2, c3, l1, l2, l3⟩ := hA
  have n0 : 0 < n := by omega
  have n1 : (1 : Int) < (n : Int) := by omega
  have n2 : (2 : Int) < (n : Int) := by omega
  have n3 : (3 : Int) < (n : Int) := by omega
  obtain ⟨f, hf⟩ : ∃ f, (x1 == [105, 110]) = f := ⟨_, rfl⟩
  have R1 := fun w1 h => refRead_any x1 w1 h l1
  have R2 := fun w1 h => refRead_any x2 w1 h l2
  have R3 := fun w1 h => refRead_any x3 w1 h l3
  generalize hB : Off.refRead x1 = B at R1 ⊢
  generalize hD : Off.refRead x2 = D at R2 ⊢
  generalize hO : Off.refRead x3 = O at R3 ⊢
  obtain ⟨BR, BN⟩ := B
  obtain ⟨DR, DN⟩ := D
  obtain ⟨OR, ON⟩ := O
  have HB := Lib.hid hB
  have HD := Lib.hid hD
  have HO := Lib.hid hO
  clear hB hD hO
  have hf' := Lib.hid hf
  obtain ⟨a0, a1⟩ := two_boxes w (.cells #[.int .i64 0, .int .i64 0, .int .i64 0, .int .i64 0, .int .i64 0, .string ⟨#[]⟩, .bool false, .int .i64 0, .int .i64 0] 77) (.cells #[.int .i64 0, .int .i64 0, .int .i64 0, .int .i64 0, .int .i64 0, .string ⟨#[]⟩, .bool f, .int .i64 0, .int .i64 0] 77)
  have kw : Keeps No w ((w.alloc (.cells #[.int .i64 0, .int .i64 0, .int .i64 0, .int .i64 0, .int .i64 0, .string ⟨#[]⟩, .bool false, .int .i64 0, .int .i64 0] 77)).alloc (.cells #[.int .i64 0, .int .i64 0, .int .i64 0, .int .i64 0, .int .i64 0, .string ⟨#[]⟩, .bool f, .int .i64 0, .int .i64 0] 77)) := ((Keeps.refl _ _).alloc _).alloc _
  have hEw := hE.no kw
  go_enter Tryz.func70, Tryz.ntmps70
  go_wp2_with fail
  have zW : ((w.alloc (.cells #[.int .i64 0, .int .i64 0, .int .i64 0, .int .i64 0, .int .i64 0, .string ⟨#[]⟩, .bool false, .int .i64 0, .int .i64 0] 77)).alloc (.cells #[.int .i64 0, .int .i64 0, .int .i64 0, .int .i64 0, .int .i64 0, .string ⟨#[]⟩, .bool f, .int .i64 0, .int .i64 0] 77)).heap.size = w.heap.size + 2 := by simp
  generalize (w.alloc (.cells #[.int .i64 0, .int .i64 0, .int .i64 0, .int .i64 0, .int .i64 0, .string ⟨#[]⟩, .bool false, .int .i64 0, .int .i64 0] 77)).alloc (.cells #[.int .i64 0, .int .i64 0, .int .i64 0, .int .i64 0, .int .i64 0, .string ⟨#[]⟩, .bool f, .int .i64 0, .int .i64 0] 77) = W0 at a0 a1 kw hEw zW ⊢
  refine (R1 _ hEw).mono ?_
  rintro e W1 ⟨o1, rfl, k1⟩
  have K1 := kw.trans k1
  have p0 := k1.heap a0 id
  have p1 := k1.heap a1 id
  have e1 := hE.no K1
  have z1 : w.heap.size + 2 ≤ W1.heap.size := by have := k1.size; omega
  clear zW
  clear R1 a0 a1 kw hEw k1
  have q2 : (W1.alloc (.cells #[.int .i64 BR, .int .i64 BN] 34)).heap[W1.heap.size]? = some (.cells #[.int .i64 BR, .int .i64 BN] 34 (0, 0)) := heap_alloc_new _ _
  have q0 := heap_alloc_keep p0 (.cells #[.int .i64 BR, .int .i64 BN] 34)
  have q1 := heap_alloc_keep p1 (.cells #[.int .i64 BR, .int .i64 BN] 34)
  have kq : Keeps No w (W1.alloc (.cells #[.int .i64 BR, .int .i64 BN] 34)) := K1.alloc _
  have eq := e1.alloc (.cells #[.int .i64 BR, .int .i64 BN] 34)
  have d2 : (W1.alloc (.cells #[.int .i64 BR, .int .i64 BN] 34)).cell? ⟨g, o + 2, none⟩ = _ := (kq.cell hg id).trans c2
  go_wp2_with fail
  obtain ⟨b4, hb4⟩ : ∃ b, b = W1.heap.size := ⟨_, rfl⟩
  rw [← hb4] at q2 z1 ⊢
  have hl4 : b4 < (W1.alloc (.cells #[.int .i64 BR, .int .i64 BN] 34)).heap.size := by rw [hb4]; simp
  generalize W1.alloc (.cells #[.int .i64 BR, .int .i64 BN] 34) = W2 at q0 q1 q2 kq eq hl4 ⊢
  clear hb4 d2 p0 p1 e1 K1
  refine (R2 _ eq).mono ?_
  rintro e W3 ⟨o2, rfl, k2⟩
  have K3 := kq.trans k2
  have r0 := k2.heap q0 id
  have r1 := k2.heap q1 id
  have r2 := k2.heap q2 id
  have e3 := hE.no K3
  have z3 := k2.size
  clear R2 q0 q1 q2 kq eq k2
  have s3 : (W3.alloc (.cells #[.int .i64 DR, .int .i64 DN] 34)).heap[W3.heap.size]? = some (.cells #[.int .i64 DR, .int .i64 DN] 34 (0, 0)) := heap_alloc_new _ _
  have s0 := heap_alloc_keep r0 (.cells #[.int .i64 DR, .int .i64 DN] 34)
  have s1 := heap_alloc_keep r1 (.cells #[.int .i64 DR, .int .i64 DN] 34)
  have s2 := heap_alloc_keep r2 (.cells #[.int .i64 DR, .int .i64 DN] 34)
  have ks : Keeps No w (W3.alloc (.cells #[.int .i64 DR, .int .i64 DN] 34)) := K3.alloc _
  have es := e3.alloc (.cells #[.int .i64 DR, .int .i64 DN] 34)
  have d3 : (W3.alloc (.cells #[.int .i64 DR, .int .i64 DN] 34)).cell? ⟨g, o + 3, none⟩ = _ := (ks.cell hg id).trans c3
  go_wp2_with fail
  obtain ⟨b6, hb6⟩ : ∃ b, b = W3.heap.size := ⟨_, rfl⟩
  rw [← hb6] at s3 z3 ⊢
  have hl6 : b6 < (W3.alloc (.cells #[.int .i64 DR, .int .i64 DN] 34)).heap.size := by rw [hb6]; simp
  generalize W3.alloc (.cells #[.int .i64 DR, .int .i64 DN] 34) = W4 at s0 s1 s2 s3 ks es hl6 ⊢
  clear hb6 d3 r0 r1 r2 e3 K3
  refine (R3 _ es).mono ?_
  rintro e W5 ⟨o3, rfl, k3⟩
  have K5 := ks.trans k3
  have t0 := k3.heap s0 id
  have t1 := k3.heap s1 id
  have t2 := k3.heap s2 id
  have t3 := k3.heap s3 id
  have z5 := k3.size
  clear R3 s0 s1 s2 s3 ks es k3
  have u4 : (W5.alloc (.cells #[.int .i64 OR, .int .i64 ON] 34)).heap[W5.heap.size]? = some (.cells #[.int .i64 OR, .int .i64 ON] 34 (0, 0)) := heap_alloc_new _ _
  have u0 := heap_alloc_keep t0 (.cells #[.int .i64 OR, .int .i64 ON] 34)
  have u1 := heap_alloc_keep t1 (.cells #[.int .i64 OR, .int .i64 ON] 34)
  have u2 := heap_alloc_keep t2 (.cells #[.int .i64 OR, .int .i64 ON] 34)
  have u3 := heap_alloc_keep t3 (.cells #[.int .i64 OR, .int .i64 ON] 34)
  have ku : Keeps No w (W5.alloc (.cells #[.int .i64 OR, .int .i64 ON] 34)) := K5.alloc _
  have d0 : (W5.alloc (.cells #[.int .i64 OR, .int .i64 ON] 34)).cell? ⟨g, o, none⟩ = _ := (ku.cell hg id).trans c0
  have d1 : (W5.alloc (.cells #[.int .i64 OR, .int .i64 ON] 34)).cell? ⟨g, o + 1, none⟩ = _ := (ku.cell hg id).trans c1
  have d2 : (W5.alloc (.cells #[.int .i64 OR, .int .i64 ON] 34)).cell? ⟨g, o + 2, none⟩ = _ := (ku.cell hg id).trans c2
  have d3 : (W5.alloc (.cells #[.int .i64 OR, .int .i64 ON] 34)).cell? ⟨g, o + 3, none⟩ = _ := (ku.cell hg id).trans c3
  have g0 := Lib.cell_of_heap u0
  have f0 := Lib.frozen_of_heap u0
  have g1 := Lib.cell_of_heap u1
  have f1 := Lib.frozen_of_heap u1
  have g2 := Lib.cell_of_heap u2
  have g3 := Lib.cell_of_heap u3
  have g4 := Lib.cell_of_heap u4
  have ne1 : w.heap.size ≠ w.heap.size + 1 := by omega
  have ne2 : w.heap.size + 1 ≠ w.heap.size := by omega
  have ne3 : ¬ b4 = w.heap.size + 1 := by omega
  have ne4 : ¬ b6 = w.heap.size + 1 := by omega
  have ne5 : ¬ W5.heap.size = w.heap.size + 1 := by omega
  have ne6 : ¬ w.heap.size + 1 = b4 := by omega
  have ne7 : ¬ w.heap.size + 1 = b6 := by omega
  have ne8 : ¬ w.heap.size + 1 = W5.heap.size := by omega
  have ne9 : b4 ≠ w.heap.size := by omega
  have ne10 : b6 ≠ w.heap.size := by omega
  have ne11 : g ≠ w.heap.size := by omega
  have V := fun s w1 (h : s.length ≤ 1000000) => (refValue_same s w1 h).mono fun e w2 (hh : e = .returned (.int .i64 (Off.value s)) ∧ w1 = w2) => (⟨hh.1, hh.2.symm⟩ : e = .returned (.int .i64 (Off.value s)) ∧ w2 = w1)
  have S0 : (W5.alloc (.cells #[.int .i64 OR, .int .i64 ON] 34)).cell? ⟨b4, 0, none⟩ = some (.int .i64 BR) := g2 0
  have S1 : (W5.alloc (.cells #[.int .i64 OR, .int .i64 ON] 34)).cell? ⟨b4, 1, none⟩ = some (.int .i64 BN) := g2 1
  clear g1 f1 g3 g4 u1 u2 u3 u4 t0 t1 t2 t3
  go_wp2
  generalize (W5.alloc (.cells #[.int .i64 OR, .int .i64 ON] 34)) = WW at *
  refine wp_region_still_tail 10 (by kernel_rfl) (by kernel_rfl) ?_
  simp only [List.take_succ_cons, List.take_zero, List.drop_succ_cons, List.drop_zero]
  change wpStill _ _ WW.drew _ _ _
  still_step
  still_step
  still_step
  still_step
  still_call (V x2 _ l2)
  still_step
  still_step
  still_step
  still_call (V x3 _ l3)
  still_step
  refine wpStill_nil ?_
  change wpList _ _ _ _ _ WW.drew
  go_wp2
  have v9 := heap_drew (heap_fill9 u0 (.int .i64 3) (.int .i64 BR) (.int .i64 BN) (.int .i64 (Off.value x2)) (.int .i64 (Off.value x3)) (.string ⟨#[]⟩) (.bool false) (.int .i64 0) (.int .i64 0))
  refine bodyPost_ret (res_ask v9 rfl) rfl ⟨?_, (Keeps.fill9 ku (Nat.le_refl _) _ _ _ _ _ _ _ _ _).drew⟩
  show _ = Ending.returned (cmdV ⟨3, Off.refRead x1, Off.value x2, Off.value x3, [], false, .z⟩)
  rw [HB.out]
  first | done | rfl

set_option maxRecDepth 100000 in
set_option maxHeartbeats 4000000 in
theorem ask_place (g o n c : Nat) (x1 x2 x3 : List UInt8) (w : World) (hE : Env w) (hA : AskAt g o n [112, 108, 97, 99, 101] x1 x2 x3 w) :
    Calls Tryz.prog 70 #[.slice (some ⟨g, o, none⟩) n c] w (AskPost (Off.askW [Off.sPlace, x1, x2, x3]) w) := by
  have hz := hE.size
  obtain ⟨hn, hg, c0, c1, c2, c3, l1, l2, l3⟩ := hA
  have n0 : 0 < n := by omega
  have n1 : (1 : Int) < (n : Int) := by omega
  have n2 : (2 : Int) < (n : Int) := by omega
  have n3 : (3 : Int) < (n : Int) := by omega
  obtain ⟨f, hf⟩ : ∃ f, (x1 == [105, 110]) = f := ⟨_, rfl⟩
  have R1 := fun w1 h => refRead_any x1 w1 h l1
  have R2 := fun w1 h => refRead_any x2 w1 h l2
  have R3 := fun w1 h => refRead_any x3 w1 h l3
  generalize hB : Off.refRead x1 = B at R1 ⊢
  generalize hD : Off.refRead x2 = D at R2 ⊢
  generalize hO : Off.refRead x3 = O at R3 ⊢
  obtain ⟨BR, BN⟩ := B
  obtain ⟨DR, DN⟩ := D
  obtain ⟨OR, ON⟩ := O
  have HB := Lib.hid hB
  have HD := Lib.hid hD
  have HO := Lib.hid hO
  clear hB hD hO
  have hf' := Lib.hid hf
  obtain ⟨a0, a1⟩ := two_boxes w (.cells #[.int .i64 0, .int .i64 0, .int .i64 0, .int .i64 0, .int .i64 0, .string ⟨#[]⟩, .bool false, .int .i64 0, .int .i64 0] 77) (.cells #[.int .i64 0, .int .i64 0, .int .i64 0, .int .i64 0, .int .i64 0, .string ⟨#[]⟩, .bool f, .int .i64 0, .int .i64 0] 77)
  have kw : Keeps No w ((w.alloc (.cells #[.int .i64 0, .int .i64 0, .int .i64 0, .int .i64 0, .int .i64 0, .string ⟨#[]⟩, .bool false, .int .i64 0, .int .i64 0] 77)).alloc (.cells #[.int .i64 0, .int .i64 0, .int .i64 0, .int .i64 0, .int .i64 0, .string ⟨#[]⟩, .bool f, .int .i64 0, .int .i64 0] 77)) := ((Keeps.refl _ _).alloc _).alloc _
  have hEw := hE.no kw
  go_enter Tryz.func70, Tryz.ntmps70
  go_wp2_with fail
  have zW : ((w.alloc (.cells #[.int .i64 0, .int .i64 0, .int .i64 0, .int .i64 0, .int .i64 0, .string ⟨#[]⟩, .bool false, .int .i64 0, .int .i64 0] 77)).alloc (.cells #[.int .i64 0, .int .i64 0, .int .i64 0, .int .i64 0, .int .i64 0, .string ⟨#[]⟩, .bool f, .int .i64 0, .int .i64 0] 77)).heap.size = w.heap.size + 2 := by simp
  generalize (w.alloc (.cells #[.int .i64 0, .int .i64 0, .int .i64 0, .int .i64 0, .int .i64 0, .string ⟨#[]⟩, .bool false, .int .i64 0, .int .i64 0] 77)).alloc (.cells #[.int .i64 0, .int .i64 0, .int .i64 0, .int .i64 0, .int .i64 0, .string ⟨#[]⟩, .bool f, .int .i64 0, .int .i64 0] 77) = W0 at a0 a1 kw hEw zW ⊢
  refine (R1 _ hEw).mono ?_
  rintro e W1 ⟨o1, rfl, k1⟩
  have K1 := kw.trans k1
  have p0 := k1.heap a0 id
  have p1 := k1.heap a1 id
  have e1 := hE.no K1
  have z1 : w.heap.size + 2 ≤ W1.heap.size := by have := k1.size; omega
  clear zW
  clear R1 a0 a1 kw hEw k1
  have q2 : (W1.alloc (.cells #[.int .i64 BR, .int .i64 BN] 34)).heap[W1.heap.size]? = some (.cells #[.int .i64 BR, .int .i64 BN] 34 (0, 0)) := heap_alloc_new _ _
  have q0 := heap_alloc_keep p0 (.cells #[.int .i64 BR, .int .i64 BN] 34)
  have q1 := heap_alloc_keep p1 (.cells #[.int .i64 BR, .int .i64 BN] 34)
  have kq : Keeps No w (W1.alloc (.cells #[.int .i64 BR, .int .i64 BN] 34)) := K1.alloc _
  have eq := e1.alloc (.cells #[.int .i64 BR, .int .i64 BN] 34)
  have d2 : (W1.alloc (.cells #[.int .i64 BR, .int .i64 BN] 34)).cell? ⟨g, o + 2, none⟩ = _ := (kq.cell hg id).trans c2
  go_wp2_with fail
  obtain ⟨b4, hb4⟩ : ∃ b, b = W1.heap.size := ⟨_, rfl⟩
  rw [← hb4] at q2 z1 ⊢
  have hl4 : b4 < (W1.alloc (.cells #[.int .i64 BR, .int .i64 BN] 34)).heap.size := by rw [hb4]; simp
  generalize W1.alloc (.cells #[.int .i64 BR, .int .i64 BN] 34) = W2 at q0 q1 q2 kq eq hl4 ⊢
  clear hb4 d2 p0 p1 e1 K1
  refine (R2 _ eq).mono ?_
  rintro e W3 ⟨o2, rfl, k2⟩
  have K3 := kq.trans k2
  have r0 := k2.heap q0 id
  have r1 := k2.heap q1 id
  have r2 := k2.heap q2 id
  have e3 := hE.no K3
  have z3 := k2.size
  clear R2 q0 q1 q2 kq eq k2
  have s3 : (W3.alloc (.cells #[.int .i64 DR, .int .i64 DN] 34)).heap[W3.heap.size]? = some (.cells #[.int .i64 DR, .int .i64 DN] 34 (0, 0)) := heap_alloc_new _ _
  have s0 := heap_alloc_keep r0 (.cells #[.int .i64 DR, .int .i64 DN] 34)
  have s1 := heap_alloc_keep r1 (.cells #[.int .i64 DR, .int .i64 DN] 34)
  have s2 := heap_alloc_keep r2 (.cells #[.int .i64 DR, .int .i64 DN] 34)
  have ks : Keeps No w (W3.alloc (.cells #[.int .i64 DR, .int .i64 DN] 34)) := K3.alloc _
  have es := e3.alloc (.cells #[.int .i64 DR, .int .i64 DN] 34)
  have d3 : (W3.alloc (.cells #[.int .i64 DR, .int .i64 DN] 34)).cell? ⟨g, o + 3, none⟩ = _ := (ks.cell hg id).trans c3
  go_wp2_with fail
  obtain ⟨b6, hb6⟩ : ∃ b, b = W3.heap.size := ⟨_, rfl⟩
  rw [← hb6] at s3 z3 ⊢
  have hl6 : b6 < (W3.alloc (.cells #[.int .i64 DR, .int .i64 DN] 34)).heap.size := by rw [hb6]; simp
  generalize W3.alloc (.cells #[.int .i64 DR, .int .i64 DN] 34) = W4 at s0 s1 s2 s3 ks es hl6 ⊢
  clear hb6 d3 r0 r1 r2 e3 K3
  refine (R3 _ es).mono ?_
  rintro e W5 ⟨o3, rfl, k3⟩
  have K5 := ks.trans k3
  have t0 := k3.heap s0 id
  have t1 := k3.heap s1 id
  have t2 := k3.heap s2 id
  have t3 := k3.heap s3 id
  have z5 := k3.size
  clear R3 s0 s1 s2 s3 ks es k3
  have u4 : (W5.alloc (.cells #[.int .i64 OR, .int .i64 ON] 34)).heap[W5.heap.size]? = some (.cells #[.int .i64 OR, .int .i64 ON] 34 (0, 0)) := heap_alloc_new _ _
  have u0 := heap_alloc_keep t0 (.cells #[.int .i64 OR, .int .i64 ON] 34)
  have u1 := heap_alloc_keep t1 (.cells #[.int .i64 OR, .int .i64 ON] 34)
  have u2 := heap_alloc_keep t2 (.cells #[.int .i64 OR, .int .i64 ON] 34)
  have u3 := heap_alloc_keep t3 (.cells #[.int .i64 OR, .int .i64 ON] 34)
  have ku : Keeps No w (W5.alloc (.cells #[.int .i64 OR, .int .i64 ON] 34)) := K5.alloc _
  have d0 : (W5.alloc (.cells #[.int .i64 OR, .int .i64 ON] 34)).cell? ⟨g, o, none⟩ = _ := (ku.cell hg id).trans c0
  have d1 : (W5.alloc (.cells #[.int .i64 OR, .int .i64 ON] 34)).cell? ⟨g, o + 1, none⟩ = _ := (ku.cell hg id).trans c1
  have d2 : (W5.alloc (.cells #[.int .i64 OR, .int .i64 ON] 34)).cell? ⟨g, o + 2, none⟩ = _ := (ku.cell hg id).trans c2
  have d3 : (W5.alloc (.cells #[.int .i64 OR, .int .i64 ON] 34)).cell? ⟨g, o + 3, none⟩ = _ := (ku.cell hg id).trans c3
  have g0 := Lib.cell_of_heap u0
  have f0 := Lib.frozen_of_heap u0
  have g1 := Lib.cell_of_heap u1
  have f1 := Lib.frozen_of_heap u1
  have g2 := Lib.cell_of_heap u2
  have g3 := Lib.cell_of_heap u3
  have g4 := Lib.cell_of_heap u4
  have ne1 : w.heap.size ≠ w.heap.size + 1 := by omega
  have ne2 : w.heap.size + 1 ≠ w.heap.size := by omega
  have ne3 : ¬ b4 = w.heap.size + 1 := by omega
  have ne4 : ¬ b6 = w.heap.size + 1 := by omega
  have ne5 : ¬ W5.heap.size = w.heap.size + 1 := by omega
  have ne6 : ¬ w.heap.size + 1 = b4 := by omega
  have ne7 : ¬ w.heap.size + 1 = b6 := by omega
  have ne8 : ¬ w.heap.size + 1 = W5.heap.size := by omega
  have ne9 : b4 ≠ w.heap.size := by omega
  have ne10 : b6 ≠ w.heap.size := by omega
  have ne11 : g ≠ w.heap.size := by omega
  have P3 := fun w1 => refPlain_any x3 w1 l3
  generalize hP : Off.refPlain x3 = T at P3
  have HP := Lib.hid hP
  clear hP
  have hgW : g < (W5.alloc (.cells #[.int .i64 OR, .int .i64 ON] 34)).heap.size := Nat.lt_of_lt_of_le hg ku.size
  have L4 : b4 < (W5.alloc (.cells #[.int .i64 OR, .int .i64 ON] 34)).heap.size := heap_lt u2
  have L6 : b6 < (W5.alloc (.cells #[.int .i64 OR, .int .i64 ON] 34)).heap.size := heap_lt u3
  have S0 : (W5.alloc (.cells #[.int .i64 OR, .int .i64 ON] 34)).cell? ⟨b4, 0, none⟩ = some (.int .i64 BR) := g2 0
  have S1 : (W5.alloc (.cells #[.int .i64 OR, .int .i64 ON] 34)).cell? ⟨b4, 1, none⟩ = some (.int .i64 BN) := g2 1
  have S2 : (W5.alloc (.cells #[.int .i64 OR, .int .i64 ON] 34)).cell? ⟨b6, 0, none⟩ = some (.int .i64 DR) := g3 0
  have S3 : (W5.alloc (.cells #[.int .i64 OR, .int .i64 ON] 34)).cell? ⟨b6, 1, none⟩ = some (.int .i64 DN) := g3 1
  go_wp2
  go_region_held3 (fun w' => w'.cell? ⟨b4, 0, none⟩ = some (.int .i64 BR) ∧ w'.cell? ⟨b4, 1, none⟩ = some (.int .i64 BN) ∧ w'.cell? ⟨b6, 0, none⟩ = some (.int .i64 DR) ∧ w'.cell? ⟨b6, 1, none⟩ = some (.int .i64 DN) ∧ w'.cell? ⟨g, o + 3, none⟩ = some (.string ⟨x3.toArray⟩))
    (first | go_keep | (refine ⟨?_, ?_, ?_, ?_, ?_⟩ <;> (first | (with_reducible exact cell_fill9_drew _ _ _ _ _ _ _ _ _ (by assumption) (by assumption)) | (go_keep; done) | (rw [k9.cell L4 id]; assumption) | (rw [k9.cell L6 id]; assumption) | (rw [k9.cell hgW id]; assumption) | ((with_reducible refine cell_fill9 _ _ _ _ _ _ _ _ _ ?_ (by assumption)); first | (rw [k9.cell L4 id]; assumption) | (rw [k9.cell L6 id]; assumption) | (rw [k9.cell hgW id]; assumption)))))
    (first
    | (go_at_call 111; refine (P3 _).mono ?_; rintro e w9 ⟨rfl, k9⟩; have v0 := k9.heap u0 id; have y0 := Lib.cell_of_heap v0; have y1 := Lib.frozen_of_heap v0; have K9 := Keeps.trans ku.drew k9))
  all_goals
    go_wp2
    have v9 := heap_fill9 v0 (.int .i64 14) (.int .i64 BR) (.int .i64 BN) (.int .i64 0) (.int .i64 0) (.string ⟨T.toArray⟩) (.bool false) (.int .i64 DR) (.int .i64 DN)
    refine bodyPost_ret (res_ask v9 rfl) rfl ⟨?_, Keeps.fill9 K9 (Nat.le_refl _) _ _ _ _ _ _ _ _ _⟩
    show _ = Ending.returned (cmdV ⟨14, Off.refRead x1, 0, 0, Off.refPlain x3, false, Off.refRead x2⟩)
    rw [HB.out, HD.out, HP.out]
    first | done | rfl

set_option maxRecDepth 100000 in
set_option maxHeartbeats 4000000 in
theorem ask_split (g o n c : Nat) (x1 x2 x3 : List UInt8) (w : World) (hE : Env w) (hA : AskAt g o n [115, 112, 108, 105, 116] x1 x2 x3 w) :
    Calls Tryz.prog 70 #[.slice (some ⟨g, o, none⟩) n c] w (AskPost (Off.askW [Off.sSplit, x1, x2, x3]) w) := by
  have hz := hE.size
  obtain ⟨hn, hg, c0, c1, c2, c3, l1, l2, l3⟩ := hA
  have n0 : 0 < n := by omega
  have n1 : (1 : Int) < (n : Int) := by omega
  have n2 : (2 : Int) < (n : Int) := by omega
  have n3 : (3 : Int) < (n : Int) := by omega
  obtain ⟨f, hf⟩ : ∃ f, (x1 == [105, 110]) = f := ⟨_, rfl⟩
  have R1 := fun w1 h => refRead_any x1 w1 h l1
  have R2 := fun w1 h => refRead_any x2 w1 h l2
  have R3 := fun w1 h => refRead_any x3 w1 h l3
  generalize hB : Off.refRead x1 = B at R1 ⊢
  generalize hD : Off.refRead x2 = D at R2 ⊢
  generalize hO : Off.refRead x3 = O at R3 ⊢
  obtain ⟨BR, BN⟩ := B
  obtain ⟨DR, DN⟩ := D
  obtain ⟨OR, ON⟩ := O
  have HB := Lib.hid hB
  have HD := Lib.hid hD
  have HO := Lib.hid hO
  clear hB hD hO
  have hf' := Lib.hid hf
  obtain ⟨a0, a1⟩ := two_boxes w (.cells #[.int .i64 0, .int .i64 0, .int .i64 0, .int .i64 0, .int .i64 0, .string ⟨#[]⟩, .bool false, .int .i64 0, .int .i64 0] 77) (.cells #[.int .i64 0, .int .i64 0, .int .i64 0, .int .i64 0, .int .i64 0, .string ⟨#[]⟩, .bool f, .int .i64 0, .int .i64 0] 77)
  have kw : Keeps No w ((w.alloc (.cells #[.int .i64 0, .int .i64 0, .int .i64 0, .int .i64 0, .int .i64 0, .string ⟨#[]⟩, .bool false, .int .i64 0, .int .i64 0] 77)).alloc (.cells #[.int .i64 0, .int .i64 0, .int .i64 0, .int .i64 0, .int .i64 0, .string ⟨#[]⟩, .bool f, .int .i64 0, .int .i64 0] 77)) := ((Keeps.refl _ _).alloc _).alloc _
  have hEw := hE.no kw
  go_enter Tryz.func70, Tryz.ntmps70
  go_wp2_with fail
  have zW : ((w.alloc (.cells #[.int .i64 0, .int .i64 0, .int .i64 0, .int .i64 0, .int .i64 0, .string ⟨#[]⟩, .bool false, .int .i64 0, .int .i64 0] 77)).alloc (.cells #[.int .i64 0, .int .i64 0, .int .i64 0, .int .i64 0, .int .i64 0, .string ⟨#[]⟩, .bool f, .int .i64 0, .int .i64 0] 77)).heap.size = w.heap.size + 2 := by simp
  generalize (w.alloc (.cells #[.int .i64 0, .int .i64 0, .int .i64 0, .int .i64 0, .int .i64 0, .string ⟨#[]⟩, .bool false, .int .i64 0, .int .i64 0] 77)).alloc (.cells #[.int .i64 0, .int .i64 0, .int .i64 0, .int .i64 0, .int .i64 0, .string ⟨#[]⟩, .bool f, .int .i64 0, .int .i64 0] 77) = W0 at a0 a1 kw hEw zW ⊢
  refine (R1 _ hEw).mono ?_
  rintro e W1 ⟨o1, rfl, k1⟩
  have K1 := kw.trans k1
  have p0 := k1.heap a0 id
  have p1 := k1.heap a1 id
  have e1 := hE.no K1
  have z1 : w.heap.size + 2 ≤ W1.heap.size := by have := k1.size; omega
  clear zW
  clear R1 a0 a1 kw hEw k1
  have q2 : (W1.alloc (.cells #[.int .i64 BR, .int .i64 BN] 34)).heap[W1.heap.size]? = some (.cells #[.int .i64 BR, .int .i64 BN] 34 (0, 0)) := heap_alloc_new _ _
  have q0 := heap_alloc_keep p0 (.cells #[.int .i64 BR, .int .i64 BN] 34)
  have q1 := heap_alloc_keep p1 (.cells #[.int .i64 BR, .int .i64 BN] 34)
  have kq : Keeps No w (W1.alloc (.cells #[.int .i64 BR, .int .i64 BN] 34)) := K1.alloc _
  have eq := e1.alloc (.cells #[.int .i64 BR, .int .i64 BN] 34)
  have d2 : (W1.alloc (.cells #[.int .i64 BR, .int .i64 BN] 34)).cell? ⟨g, o + 2, none⟩ = _ := (kq.cell hg id).trans c2
  go_wp2_with fail
  obtain ⟨b4, hb4⟩ : ∃ b, b = W1.heap.size := ⟨_, rfl⟩
  rw [← hb4] at q2 z1 ⊢
  have hl4 : b4 < (W1.alloc (.cells #[.int .i64 BR, .int .i64 BN] 34)).heap.size := by rw [hb4]; simp
  generalize W1.alloc (.cells #[.int .i64 BR, .int .i64 BN] 34) = W2 at q0 q1 q2 kq eq hl4 ⊢
  clear hb4 d2 p0 p1 e1 K1
  refine (R2 _ eq).mono ?_
  rintro e W3 ⟨o2, rfl, k2⟩
  have K3 := kq.trans k2
  have r0 := k2.heap q0 id
  have r1 := k2.heap q1 id
  have r2 := k2.heap q2 id
  have e3 := hE.no K3
  have z3 := k2.size
  clear R2 q0 q1 q2 kq eq k2
  have s3 : (W3.alloc (.cells #[.int .i64 DR, .int .i64 DN] 34)).heap[W3.heap.size]? = some (.cells #[.int .i64 DR, .int .i64 DN] 34 (0, 0)) := heap_alloc_new _ _
  have s0 := heap_alloc_keep r0 (.cells #[.int .i64 DR, .int .i64 DN] 34)
  have s1 := heap_alloc_keep r1 (.cells #[.int .i64 DR, .int .i64 DN] 34)
  have s2 := heap_alloc_keep r2 (.cells #[.int .i64 DR, .int .i64 DN] 34)
  have ks : Keeps No w (W3.alloc (.cells #[.int .i64 DR, .int .i64 DN] 34)) := K3.alloc _
  have es := e3.alloc (.cells #[.int .i64 DR, .int .i64 DN] 34)
  have d3 : (W3.alloc (.cells #[.int .i64 DR, .int .i64 DN] 34)).cell? ⟨g, o + 3, none⟩ = _ := (ks.cell hg id).trans c3
  go_wp2_with fail
  obtain ⟨b6, hb6⟩ : ∃ b, b = W3.heap.size := ⟨_, rfl⟩
  rw [← hb6] at s3 z3 ⊢
  have hl6 : b6 < (W3.alloc (.cells #[.int .i64 DR, .int .i64 DN] 34)).heap.size := by rw [hb6]; simp
  generalize W3.alloc (.cells #[.int .i64 DR, .int .i64 DN] 34) = W4 at s0 s1 s2 s3 ks es hl6 ⊢
  clear hb6 d3 r0 r1 r2 e3 K3
  refine (R3 _ es).mono ?_
  rintro e W5 ⟨o3, rfl, k3⟩
  have K5 := ks.trans k3
  have t0 := k3.heap s0 id
  have t1 := k3.heap s1 id
  have t2 := k3.heap s2 id
  have t3 := k3.heap s3 id
  have z5 := k3.size
  clear R3 s0 s1 s2 s3 ks es k3
  have u4 : (W5.alloc (.cells #[.int .i64 OR, .int .i64 ON] 34)).heap[W5.heap.size]? = some (.cells #[.int .i64 OR, .int .i64 ON] 34 (0, 0)) := heap_alloc_new _ _
  have u0 := heap_alloc_keep t0 (.cells #[.int .i64 OR, .int .i64 ON] 34)
  have u1 := heap_alloc_keep t1 (.cells #[.int .i64 OR, .int .i64 ON] 34)
  have u2 := heap_alloc_keep t2 (.cells #[.int .i64 OR, .int .i64 ON] 34)
  have u3 := heap_alloc_keep t3 (.cells #[.int .i64 OR, .int .i64 ON] 34)
  have ku : Keeps No w (W5.alloc (.cells #[.int .i64 OR, .int .i64 ON] 34)) := K5.alloc _
  have d0 : (W5.alloc (.cells #[.int .i64 OR, .int .i64 ON] 34)).cell? ⟨g, o, none⟩ = _ := (ku.cell hg id).trans c0
  have d1 : (W5.alloc (.cells #[.int .i64 OR, .int .i64 ON] 34)).cell? ⟨g, o + 1, none⟩ = _ := (ku.cell hg id).trans c1
  have d2 : (W5.alloc (.cells #[.int .i64 OR, .int .i64 ON] 34)).cell? ⟨g, o + 2, none⟩ = _ := (ku.cell hg id).trans c2
  have d3 : (W5.alloc (.cells #[.int .i64 OR, .int .i64 ON] 34)).cell? ⟨g, o + 3, none⟩ = _ := (ku.cell hg id).trans c3
  have g0 := Lib.cell_of_heap u0
  have f0 := Lib.frozen_of_heap u0
  have g1 := Lib.cell_of_heap u1
  have f1 := Lib.frozen_of_heap u1
  have g2 := Lib.cell_of_heap u2
  have g3 := Lib.cell_of_heap u3
  have g4 := Lib.cell_of_heap u4
  have ne1 : w.heap.size ≠ w.heap.size + 1 := by omega
  have ne2 : w.heap.size + 1 ≠ w.heap.size := by omega
  have ne3 : ¬ b4 = w.heap.size + 1 := by omega
  have ne4 : ¬ b6 = w.heap.size + 1 := by omega
  have ne5 : ¬ W5.heap.size = w.heap.size + 1 := by omega
  have ne6 : ¬ w.heap.size + 1 = b4 := by omega
  have ne7 : ¬ w.heap.size + 1 = b6 := by omega
  have ne8 : ¬ w.heap.size + 1 = W5.heap.size := by omega
  have ne9 : b4 ≠ w.heap.size := by omega
  have ne10 : b6 ≠ w.heap.size := by omega
  have ne11 : g ≠ w.heap.size := by omega
  have V2 := fun w1 => refValue_same x2 w1 l2
  generalize hV2 : Off.value x2 = V2v at V2
  have HV2 := Lib.hid hV2
  clear hV2
  go_wp2
  go_region_with (go_at_call 69; refine (V2 _).mono ?_; rintro e w8 ⟨rfl, rfl⟩)
  all_goals
    go_wp2
    have v9 := heap_drew (heap_fill9 u0 (.int .i64 4) (.int .i64 BR) (.int .i64 BN) (.int .i64 V2v) (.int .i64 0) (.string ⟨#[]⟩) (.bool false) (.int .i64 0) (.int .i64 0))
    refine bodyPost_ret (res_ask v9 rfl) rfl ⟨?_, (Keeps.fill9 ku (Nat.le_refl _) _ _ _ _ _ _ _ _ _).drew⟩
    show _ = Ending.returned (cmdV ⟨4, Off.refRead x1, Off.value x2, 0, [], false, .z⟩)
    rw [HB.out, HV2.out]
    first | done | rfl

set_option maxRecDepth 100000 in
set_option maxHeartbeats 4000000 in
theorem ask_fold (g o n c : Nat) (x1 x2 x3 : List UInt8) (w : World) (hE : Env w) (hA : AskAt g o n [102, 111, 108, 100] x1 x2 x3 w) :
    Calls Tryz.prog 70 #[.slice (some ⟨g, o, none⟩) n c] w (AskPost (Off.askW [Off.sFold, x1, x2, x3]) w) := by
  have hz := hE.size
  obtain ⟨hn, hg, c0, c1, c2, c3, l1, l2, l3⟩ := hA
  have n0 : 0 < n := by omega
  have n1 : (1 : Int) < (n : Int) := by omega
  have n2 : (2 : Int) < (n : Int) := by omega
  have n3 : (3 : Int) < (n : Int) := by omega
  obtain ⟨f, hf⟩ : ∃ f, (x1 == [105, 110]) = f := ⟨_, rfl⟩
  have R1 := fun w1 h => refRead_any x1 w1 h l1
  have R2 := fun w1 h => refRead_any x2 w1 h l2
  have R3 := fun w1 h => refRead_any x3 w1 h l3
  generalize hB : Off.refRead x1 = B at R1 ⊢
  generalize hD : Off.refRead x2 = D at R2 ⊢
  generalize hO : Off.refRead x3 = O at R3 ⊢
  obtain ⟨BR, BN⟩ := B
  obtain ⟨DR, DN⟩ := D
  obtain ⟨OR, ON⟩ := O
  have HB := Lib.hid hB
  have HD := Lib.hid hD
  have HO := Lib.hid hO
  clear hB hD hO
  have hf' := Lib.hid hf
  obtain ⟨a0, a1⟩ := two_boxes w (.cells #[.int .i64 0, .int .i64 0, .int .i64 0, .int .i64 0, .int .i64 0, .string ⟨#[]⟩, .bool false, .int .i64 0, .int .i64 0] 77) (.cells #[.int .i64 0, .int .i64 0, .int .i64 0, .int .i64 0, .int .i64 0, .string ⟨#[]⟩, .bool f, .int .i64 0, .int .i64 0] 77)
  have kw : Keeps No w ((w.alloc (.cells #[.int .i64 0, .int .i64 0, .int .i64 0, .int .i64 0, .int .i64 0, .string ⟨#[]⟩, .bool false, .int .i64 0, .int .i64 0] 77)).alloc (.cells #[.int .i64 0, .int .i64 0, .int .i64 0, .int .i64 0, .int .i64 0, .string ⟨#[]⟩, .bool f, .int .i64 0, .int .i64 0] 77)) := ((Keeps.refl _ _).alloc _).alloc _
  have hEw := hE.no kw
  go_enter Tryz.func70, Tryz.ntmps70
  go_wp2_with fail
  have zW : ((w.alloc (.cells #[.int .i64 0, .int .i64 0, .int .i64 0, .int .i64 0, .int .i64 0, .string ⟨#[]⟩, .bool false, .int .i64 0, .int .i64 0] 77)).alloc (.cells #[.int .i64 0, .int .i64 0, .int .i64 0, .int .i64 0, .int .i64 0, .string ⟨#[]⟩, .bool f, .int .i64 0, .int .i64 0] 77)).heap.size = w.heap.size + 2 := by simp
  generalize (w.alloc (.cells #[.int .i64 0, .int .i64 0, .int .i64 0, .int .i64 0, .int .i64 0, .string ⟨#[]⟩, .bool false, .int .i64 0, .int .i64 0] 77)).alloc (.cells #[.int .i64 0, .int .i64 0, .int .i64 0, .int .i64 0, .int .i64 0, .string ⟨#[]⟩, .bool f, .int .i64 0, .int .i64 0] 77) = W0 at a0 a1 kw hEw zW ⊢
  refine (R1 _ hEw).mono ?_
  rintro e W1 ⟨o1, rfl, k1⟩
  have K1 := kw.trans k1
  have p0 := k1.heap a0 id
  have p1 := k1.heap a1 id
  have e1 := hE.no K1
  have z1 : w.heap.size + 2 ≤ W1.heap.size := by have := k1.size; omega
  clear zW
  clear R1 a0 a1 kw hEw k1
  have q2 : (W1.alloc (.cells #[.int .i64 BR, .int .i64 BN] 34)).heap[W1.heap.size]? = some (.cells #[.int .i64 BR, .int .i64 BN] 34 (0, 0)) := heap_alloc_new _ _
  have q0 := heap_alloc_keep p0 (.cells #[.int .i64 BR, .int .i64 BN] 34)
  have q1 := heap_alloc_keep p1 (.cells #[.int .i64 BR, .int .i64 BN] 34)
  have kq : Keeps No w (W1.alloc (.cells #[.int .i64 BR, .int .i64 BN] 34)) := K1.alloc _
  have eq := e1.alloc (.cells #[.int .i64 BR, .int .i64 BN] 34)
  have d2 : (W1.alloc (.cells #[.int .i64 BR, .int .i64 BN] 34)).cell? ⟨g, o + 2, none⟩ = _ := (kq.cell hg id).trans c2
  go_wp2_with fail
  obtain ⟨b4, hb4⟩ : ∃ b, b = W1.heap.size := ⟨_, rfl⟩
  rw [← hb4] at q2 z1 ⊢
  have hl4 : b4 < (W1.alloc (.cells #[.int .i64 BR, .int .i64 BN] 34)).heap.size := by rw [hb4]; simp
  generalize W1.alloc (.cells #[.int .i64 BR, .int .i64 BN] 34) = W2 at q0 q1 q2 kq eq hl4 ⊢
  clear hb4 d2 p0 p1 e1 K1
  refine (R2 _ eq).mono ?_
  rintro e W3 ⟨o2, rfl, k2⟩
  have K3 := kq.trans k2
  have r0 := k2.heap q0 id
  have r1 := k2.heap q1 id
  have r2 := k2.heap q2 id
  have e3 := hE.no K3
  have z3 := k2.size
  clear R2 q0 q1 q2 kq eq k2
  have s3 : (W3.alloc (.cells #[.int .i64 DR, .int .i64 DN] 34)).heap[W3.heap.size]? = some (.cells #[.int .i64 DR, .int .i64 DN] 34 (0, 0)) := heap_alloc_new _ _
  have s0 := heap_alloc_keep r0 (.cells #[.int .i64 DR, .int .i64 DN] 34)
  have s1 := heap_alloc_keep r1 (.cells #[.int .i64 DR, .int .i64 DN] 34)
  have s2 := heap_alloc_keep r2 (.cells #[.int .i64 DR, .int .i64 DN] 34)
  have ks : Keeps No w (W3.alloc (.cells #[.int .i64 DR, .int .i64 DN] 34)) := K3.alloc _
  have es := e3.alloc (.cells #[.int .i64 DR, .int .i64 DN] 34)
  have d3 : (W3.alloc (.cells #[.int .i64 DR, .int .i64 DN] 34)).cell? ⟨g, o + 3, none⟩ = _ := (ks.cell hg id).trans c3
  go_wp2_with fail
  obtain ⟨b6, hb6⟩ : ∃ b, b = W3.heap.size := ⟨_, rfl⟩
  rw [← hb6] at s3 z3 ⊢
  have hl6 : b6 < (W3.alloc (.cells #[.int .i64 DR, .int .i64 DN] 34)).heap.size := by rw [hb6]; simp
  generalize W3.alloc (.cells #[.int .i64 DR, .int .i64 DN] 34) = W4 at s0 s1 s2 s3 ks es hl6 ⊢
  clear hb6 d3 r0 r1 r2 e3 K3
  refine (R3 _ es).mono ?_
  rintro e W5 ⟨o3, rfl, k3⟩
  have K5 := ks.trans k3
  have t0 := k3.heap s0 id
  have t1 := k3.heap s1 id
  have t2 := k3.heap s2 id
  have t3 := k3.heap s3 id
  have z5 := k3.size
  clear R3 s0 s1 s2 s3 ks es k3
  have u4 : (W5.alloc (.cells #[.int .i64 OR, .int .i64 ON] 34)).heap[W5.heap.size]? = some (.cells #[.int .i64 OR, .int .i64 ON] 34 (0, 0)) := heap_alloc_new _ _
  have u0 := heap_alloc_keep t0 (.cells #[.int .i64 OR, .int .i64 ON] 34)
  have u1 := heap_alloc_keep t1 (.cells #[.int .i64 OR, .int .i64 ON] 34)
  have u2 := heap_alloc_keep t2 (.cells #[.int .i64 OR, .int .i64 ON] 34)
  have u3 := heap_alloc_keep t3 (.cells #[.int .i64 OR, .int .i64 ON] 34)
  have ku : Keeps No w (W5.alloc (.cells #[.int .i64 OR, .int .i64 ON] 34)) := K5.alloc _
  have d0 : (W5.alloc (.cells #[.int .i64 OR, .int .i64 ON] 34)).cell? ⟨g, o, none⟩ = _ := (ku.cell hg id).trans c0
  have d1 : (W5.alloc (.cells #[.int .i64 OR, .int .i64 ON] 34)).cell? ⟨g, o + 1, none⟩ = _ := (ku.cell hg id).trans c1
  have d2 : (W5.alloc (.cells #[.int .i64 OR, .int .i64 ON] 34)).cell? ⟨g, o + 2, none⟩ = _ := (ku.cell hg id).trans c2
  have d3 : (W5.alloc (.cells #[.int .i64 OR, .int .i64 ON] 34)).cell? ⟨g, o + 3, none⟩ = _ := (ku.cell hg id).trans c3
  have g0 := Lib.cell_of_heap u0
  have f0 := Lib.frozen_of_heap u0
  have g1 := Lib.cell_of_heap u1
  have f1 := Lib.frozen_of_heap u1
  have g2 := Lib.cell_of_heap u2
  have g3 := Lib.cell_of_heap u3
  have g4 := Lib.cell_of_heap u4
  have ne1 : w.heap.size ≠ w.heap.size + 1 := by omega
  have ne2 : w.heap.size + 1 ≠ w.heap.size := by omega
  have ne3 : ¬ b4 = w.heap.size + 1 := by omega
  have ne4 : ¬ b6 = w.heap.size + 1 := by omega
  have ne5 : ¬ W5.heap.size = w.heap.size + 1 := by omega
  have ne6 : ¬ w.heap.size + 1 = b4 := by omega
  have ne7 : ¬ w.heap.size + 1 = b6 := by omega
  have ne8 : ¬ w.heap.size + 1 = W5.heap.size := by omega
  have ne9 : b4 ≠ w.heap.size := by omega
  have ne10 : b6 ≠ w.heap.size := by omega
  have ne11 : g ≠ w.heap.size := by omega
  go_wp2
  have v0 := heap_fill9 u0 (.int .i64 12) (.int .i64 BR) (.int .i64 BN) (.int .i64 0) (.int .i64 0) (.string ⟨#[]⟩) (.bool true) (.int .i64 0) (.int .i64 0)
  refine bodyPost_ret (res_ask v0 rfl) rfl ⟨?_, Keeps.fill9 ku (Nat.le_refl _) _ _ _ _ _ _ _ _ _⟩
  show _ = Ending.returned (cmdV ⟨12, Off.refRead x1, 0, 0, [], true, .z⟩)
  rw [HB.out]
  rfl

set_option maxRecDepth 100000 in
set_option maxHeartbeats 4000000 in
theorem ask_unfold (g o n c : Nat) (x1 x2 x3 : List UInt8) (w : World) (hE : Env w) (hA : AskAt g o n [117, 110, 102, 111, 108, 100] x1 x2 x3 w) :
    Calls Tryz.prog 70 #[.slice (some ⟨g, o, none⟩) n c] w (AskPost (Off.askW [Off.sUnfold, x1, x2, x3]) w) := by
  have hz := hE.size
  obtain ⟨hn, hg, c0, c1, c2, c3, l1, l2, l3⟩ := hA
  have n0 : 0 < n := by omega
  have n1 : (1 : Int) < (n : Int) := by omega
  have n2 : (2 : Int) < (n : Int) := by omega
  have n3 : (3 : Int) < (n : Int) := by omega
  obtain ⟨f, hf⟩ : ∃ f, (x1 == [105, 110]) = f := ⟨_, rfl⟩
  have R1 := fun w1 h => refRead_any x1 w1 h l1
  have R2 := fun w1 h => refRead_any x2 w1 h l2
  have R3 := fun w1 h => refRead_any x3 w1 h l3
  generalize hB : Off.refRead x1 = B at R1 ⊢
  generalize hD : Off.refRead x2 = D at R2 ⊢
  generalize hO : Off.refRead x3 = O at R3 ⊢
  obtain ⟨BR, BN⟩ := B
  obtain ⟨DR, DN⟩ := D
  obtain ⟨OR, ON⟩ := O
  have HB := Lib.hid hB
  have HD := Lib.hid hD
  have HO := Lib.hid hO
  clear hB hD hO
  have hf' := Lib.hid hf
  obtain ⟨a0, a1⟩ := two_boxes w (.cells #[.int .i64 0, .int .i64 0, .int .i64 0, .int .i64 0, .int .i64 0, .string ⟨#[]⟩, .bool false, .int .i64 0, .int .i64 0] 77) (.cells #[.int .i64 0, .int .i64 0, .int .i64 0, .int .i64 0, .int .i64 0, .string ⟨#[]⟩, .bool f, .int .i64 0, .int .i64 0] 77)
  have kw : Keeps No w ((w.alloc (.cells #[.int .i64 0, .int .i64 0, .int .i64 0, .int .i64 0, .int .i64 0, .string ⟨#[]⟩, .bool false, .int .i64 0, .int .i64 0] 77)).alloc (.cells #[.int .i64 0, .int .i64 0, .int .i64 0, .int .i64 0, .int .i64 0, .string ⟨#[]⟩, .bool f, .int .i64 0, .int .i64 0] 77)) := ((Keeps.refl _ _).alloc _).alloc _
  have hEw := hE.no kw
  go_enter Tryz.func70, Tryz.ntmps70
  go_wp2_with fail
  have zW : ((w.alloc (.cells #[.int .i64 0, .int .i64 0, .int .i64 0, .int .i64 0, .int .i64 0, .string ⟨#[]⟩, .bool false, .int .i64 0, .int .i64 0] 77)).alloc (.cells #[.int .i64 0, .int .i64 0, .int .i64 0, .int .i64 0, .int .i64 0, .string ⟨#[]⟩, .bool f, .int .i64 0, .int .i64 0] 77)).heap.size = w.heap.size + 2 := by simp
  generalize (w.alloc (.cells #[.int .i64 0, .int .i64 0, .int .i64 0, .int .i64 0, .int .i64 0, .string ⟨#[]⟩, .bool false, .int .i64 0, .int .i64 0] 77)).alloc (.cells #[.int .i64 0, .int .i64 0, .int .i64 0, .int .i64 0, .int .i64 0, .string ⟨#[]⟩, .bool f, .int .i64 0, .int .i64 0] 77) = W0 at a0 a1 kw hEw zW ⊢
  refine (R1 _ hEw).mono ?_
  rintro e W1 ⟨o1, rfl, k1⟩
  have K1 := kw.trans k1
  have p0 := k1.heap a0 id
  have p1 := k1.heap a1 id
  have e1 := hE.no K1
  have z1 : w.heap.size + 2 ≤ W1.heap.size := by have := k1.size; omega
  clear zW
  clear R1 a0 a1 kw hEw k1
  have q2 : (W1.alloc (.cells #[.int .i64 BR, .int .i64 BN] 34)).heap[W1.heap.size]? = some (.cells #[.int .i64 BR, .int .i64 BN] 34 (0, 0)) := heap_alloc_new _ _
  have q0 := heap_alloc_keep p0 (.cells #[.int .i64 BR, .int .i64 BN] 34)
  have q1 := heap_alloc_keep p1 (.cells #[.int .i64 BR, .int .i64 BN] 34)
  have kq : Keeps No w (W1.alloc (.cells #[.int .i64 BR, .int .i64 BN] 34)) := K1.alloc _
  have eq := e1.alloc (.cells #[.int .i64 BR, .int .i64 BN] 34)
  have d2 : (W1.alloc (.cells #[.int .i64 BR, .int .i64 BN] 34)).cell? ⟨g, o + 2, none⟩ = _ := (kq.cell hg id).trans c2
  go_wp2_with fail
  obtain ⟨b4, hb4⟩ : ∃ b, b = W1.heap.size := ⟨_, rfl⟩
  rw [← hb4] at q2 z1 ⊢
  have hl4 : b4 < (W1.alloc (.cells #[.int .i64 BR, .int .i64 BN] 34)).heap.size := by rw [hb4]; simp
  generalize W1.alloc (.cells #[.int .i64 BR, .int .i64 BN] 34) = W2 at q0 q1 q2 kq eq hl4 ⊢
  clear hb4 d2 p0 p1 e1 K1
  refine (R2 _ eq).mono ?_
  rintro e W3 ⟨o2, rfl, k2⟩
  have K3 := kq.trans k2
  have r0 := k2.heap q0 id
  have r1 := k2.heap q1 id
  have r2 := k2.heap q2 id
  have e3 := hE.no K3
  have z3 := k2.size
  clear R2 q0 q1 q2 kq eq k2
  have s3 : (W3.alloc (.cells #[.int .i64 DR, .int .i64 DN] 34)).heap[W3.heap.size]? = some (.cells #[.int .i64 DR, .int .i64 DN] 34 (0, 0)) := heap_alloc_new _ _
  have s0 := heap_alloc_keep r0 (.cells #[.int .i64 DR, .int .i64 DN] 34)
  have s1 := heap_alloc_keep r1 (.cells #[.int .i64 DR, .int .i64 DN] 34)
  have s2 := heap_alloc_keep r2 (.cells #[.int .i64 DR, .int .i64 DN] 34)
  have ks : Keeps No w (W3.alloc (.cells #[.int .i64 DR, .int .i64 DN] 34)) := K3.alloc _
  have es := e3.alloc (.cells #[.int .i64 DR, .int .i64 DN] 34)
  have d3 : (W3.alloc (.cells #[.int .i64 DR, .int .i64 DN] 34)).cell? ⟨g, o + 3, none⟩ = _ := (ks.cell hg id).trans c3
  go_wp2_with fail
  obtain ⟨b6, hb6⟩ : ∃ b, b = W3.heap.size := ⟨_, rfl⟩
  rw [← hb6] at s3 z3 ⊢
  have hl6 : b6 < (W3.alloc (.cells #[.int .i64 DR, .int .i64 DN] 34)).heap.size := by rw [hb6]; simp
  generalize W3.alloc (.cells #[.int .i64 DR, .int .i64 DN] 34) = W4 at s0 s1 s2 s3 ks es hl6 ⊢
  clear hb6 d3 r0 r1 r2 e3 K3
  refine (R3 _ es).mono ?_
  rintro e W5 ⟨o3, rfl, k3⟩
  have K5 := ks.trans k3
  have t0 := k3.heap s0 id
  have t1 := k3.heap s1 id
  have t2 := k3.heap s2 id
  have t3 := k3.heap s3 id
  have z5 := k3.size
  clear R3 s0 s1 s2 s3 ks es k3
  have u4 : (W5.alloc (.cells #[.int .i64 OR, .int .i64 ON] 34)).heap[W5.heap.size]? = some (.cells #[.int .i64 OR, .int .i64 ON] 34 (0, 0)) := heap_alloc_new _ _
  have u0 := heap_alloc_keep t0 (.cells #[.int .i64 OR, .int .i64 ON] 34)
  have u1 := heap_alloc_keep t1 (.cells #[.int .i64 OR, .int .i64 ON] 34)
  have u2 := heap_alloc_keep t2 (.cells #[.int .i64 OR, .int .i64 ON] 34)
  have u3 := heap_alloc_keep t3 (.cells #[.int .i64 OR, .int .i64 ON] 34)
  have ku : Keeps No w (W5.alloc (.cells #[.int .i64 OR, .int .i64 ON] 34)) := K5.alloc _
  have d0 : (W5.alloc (.cells #[.int .i64 OR, .int .i64 ON] 34)).cell? ⟨g, o, none⟩ = _ := (ku.cell hg id).trans c0
  have d1 : (W5.alloc (.cells #[.int .i64 OR, .int .i64 ON] 34)).cell? ⟨g, o + 1, none⟩ = _ := (ku.cell hg id).trans c1
  have d2 : (W5.alloc (.cells #[.int .i64 OR, .int .i64 ON] 34)).cell? ⟨g, o + 2, none⟩ = _ := (ku.cell hg id).trans c2
  have d3 : (W5.alloc (.cells #[.int .i64 OR, .int .i64 ON] 34)).cell? ⟨g, o + 3, none⟩ = _ := (ku.cell hg id).trans c3
  have g0 := Lib.cell_of_heap u0
  have f0 := Lib.frozen_of_heap u0
  have g1 := Lib.cell_of_heap u1
  have f1 := Lib.frozen_of_heap u1
  have g2 := Lib.cell_of_heap u2
  have g3 := Lib.cell_of_heap u3
  have g4 := Lib.cell_of_heap u4
  have ne1 : w.heap.size ≠ w.heap.size + 1 := by omega
  have ne2 : w.heap.size + 1 ≠ w.heap.size := by omega
  have ne3 : ¬ b4 = w.heap.size + 1 := by omega
  have ne4 : ¬ b6 = w.heap.size + 1 := by omega
  have ne5 : ¬ W5.heap.size = w.heap.size + 1 := by omega
  have ne6 : ¬ w.heap.size + 1 = b4 := by omega
  have ne7 : ¬ w.heap.size + 1 = b6 := by omega
  have ne8 : ¬ w.heap.size + 1 = W5.heap.size := by omega
  have ne9 : b4 ≠ w.heap.size := by omega
  have ne10 : b6 ≠ w.heap.size := by omega
  have ne11 : g ≠ w.heap.size := by omega
  go_wp2
  have v0 := heap_fill9 u0 (.int .i64 12) (.int .i64 BR) (.int .i64 BN) (.int .i64 0) (.int .i64 0) (.string ⟨#[]⟩) (.bool false) (.int .i64 0) (.int .i64 0)
  refine bodyPost_ret (res_ask v0 rfl) rfl ⟨?_, Keeps.fill9 ku (Nat.le_refl _) _ _ _ _ _ _ _ _ _⟩
  show _ = Ending.returned (cmdV ⟨12, Off.refRead x1, 0, 0, [], false, .z⟩)
  rw [HB.out]
  rfl

theorem kind_hit {x : List UInt8} {k : Nat} (h5 : 5 ≤ k) (h11 : k ≤ 11) (h : nameW k false = x) : Off.kindOf x = some (k : Int) := by
  subst h
  rcases (show k = 5 ∨ k = 6 ∨ k = 7 ∨ k = 8 ∨ k = 9 ∨ k = 10 ∨ k = 11 by omega) with rfl | rfl | rfl | rfl | rfl | rfl | rfl <;> rfl
theorem kind_none {x : List UInt8} (h : ∀ m : Nat, 5 ≤ m → m < 12 → nameW m false ≠ x) : Off.kindOf x = none := by
  unfold Off.kindOf
  have h5 := h 5 (by omega) (by omega)
  have h6 := h 6 (by omega) (by omega)
  have h7 := h 7 (by omega) (by omega)
  have h8 := h 8 (by omega) (by omega)
  have h9 := h 9 (by omega) (by omega)
  have h10 := h 10 (by omega) (by omega)
  have h11 := h 11 (by omega) (by omega)
  rw [if_neg (fun e => h5 e.symm), if_neg (fun e => h6 e.symm), if_neg (fun e => h7 e.symm), if_neg (fun e => h8 e.symm), if_neg (fun e => h9 e.symm), if_neg (fun e => h10 e.symm), if_neg (fun e => h11 e.symm)]

def otherCmd (x0 x1 : List UInt8) : Off.Cmd := match Off.kindOf x0 with
  | some k => ⟨k, Off.refRead x1, 0, 0, [], false, .z⟩
  | none => ⟨0, .z, 0, 0, [], decide (x1 = Off.sIn), .z⟩

set_option maxRecDepth 100000 in
set_option maxHeartbeats 4000000 in
theorem ask_other (g o n c : Nat) (x0 x1 x2 x3 : List UInt8) (w : World) (hE : Env w) (hA : AskAt g o n x0 x1 x2 x3 w)
    (q1 : (x0 == [110, 101, 119]) = false) (q2 : (x0 == [109, 111, 118, 101]) = false) (q3 : (x0 == [116, 121, 112, 101]) = false) (q4 : (x0 == [101, 114, 97, 115, 101]) = false)
    (q5 : (x0 == [112, 108, 97, 99, 101]) = false) (q6 : (x0 == [115, 112, 108, 105, 116]) = false) (q7 : (x0 == [102, 111, 108, 100]) = false) (q8 : (x0 == [117, 110, 102, 111, 108, 100]) = false) :
    Calls Tryz.prog 70 #[.slice (some ⟨g, o, none⟩) n c] w (AskPost (otherCmd x0 x1) w) := by
  have hz := hE.size
  obtain ⟨hn, hg, c0, c1, c2, c3, l1, l2, l3⟩ := hA
  have n0 : 0 < n := by omega
  have n1 : (1 : Int) < (n : Int) := by omega
  have n2 : (2 : Int) < (n : Int) := by omega
  have n3 : (3 : Int) < (n : Int) := by omega
  obtain ⟨f, hf⟩ : ∃ f, (x1 == [105, 110]) = f := ⟨_, rfl⟩
  have R1 := fun w1 h => refRead_any x1 w1 h l1
  have R2 := fun w1 h => refRead_any x2 w1 h l2
  have R3 := fun w1 h => refRead_any x3 w1 h l3
  generalize hB : Off.refRead x1 = B at R1 ⊢
  generalize hD : Off.refRead x2 = D at R2 ⊢
  generalize hO : Off.refRead x3 = O at R3 ⊢
  obtain ⟨BR, BN⟩ := B
  obtain ⟨DR, DN⟩ := D
  obtain ⟨OR, ON⟩ := O
  have HB := Lib.hid hB
  have HD := Lib.hid hD
  have HO := Lib.hid hO
  clear hB hD hO
  have hf' := Lib.hid hf
  obtain ⟨a0, a1⟩ := two_boxes w (.cells #[.int .i64 0, .int .i64 0, .int .i64 0, .int .i64 0, .int .i64 0, .string ⟨#[]⟩, .bool false, .int .i64 0, .int .i64 0] 77) (.cells #[.int .i64 0, .int .i64 0, .int .i64 0, .int .i64 0, .int .i64 0, .string ⟨#[]⟩, .bool f, .int .i64 0, .int .i64 0] 77)
  have kw : Keeps No w ((w.alloc (.cells #[.int .i64 0, .int .i64 0, .int .i64 0, .int .i64 0, .int .i64 0, .string ⟨#[]⟩, .bool false, .int .i64 0, .int .i64 0] 77)).alloc (.cells #[.int .i64 0, .int .i64 0, .int .i64 0, .int .i64 0, .int .i64 0, .string ⟨#[]⟩, .bool f, .int .i64 0, .int .i64 0] 77)) := ((Keeps.refl _ _).alloc _).alloc _
  have hEw := hE.no kw
  go_enter Tryz.func70, Tryz.ntmps70
  go_wp2_with fail
  have zW : ((w.alloc (.cells #[.int .i64 0, .int .i64 0, .int .i64 0, .int .i64 0, .int .i64 0, .string ⟨#[]⟩, .bool false, .int .i64 0, .int .i64 0] 77)).alloc (.cells #[.int .i64 0, .int .i64 0, .int .i64 0, .int .i64 0, .int .i64 0, .string ⟨#[]⟩, .bool f, .int .i64 0, .int .i64 0] 77)).heap.size = w.heap.size + 2 := by simp
  generalize (w.alloc (.cells #[.int .i64 0, .int .i64 0, .int .i64 0, .int .i64 0, .int .i64 0, .string ⟨#[]⟩, .bool false, .int .i64 0, .int .i64 0] 77)).alloc (.cells #[.int .i64 0, .int .i64 0, .int .i64 0, .int .i64 0, .int .i64 0, .string ⟨#[]⟩, .bool f, .int .i64 0, .int .i64 0] 77) = W0 at a0 a1 kw hEw zW ⊢
  refine (R1 _ hEw).mono ?_
  rintro e W1 ⟨o1, rfl, k1⟩
  have K1 := kw.trans k1
  have p0 := k1.heap a0 id
  have p1 := k1.heap a1 id
  have e1 := hE.no K1
  have z1 : w.heap.size + 2 ≤ W1.heap.size := by have := k1.size; omega
  clear zW
  clear R1 a0 a1 kw hEw k1
  have q2 : (W1.alloc (.cells #[.int .i64 BR, .int .i64 BN] 34)).heap[W1.heap.size]? = some (.cells #[.int .i64 BR, .int .i64 BN] 34 (0, 0)) := heap_alloc_new _ _
  have q0 := heap_alloc_keep p0 (.cells #[.int .i64 BR, .int .i64 BN] 34)
  have q1 := heap_alloc_keep p1 (.cells #[.int .i64 BR, .int .i64 BN] 34)
  have kq : Keeps No w (W1.alloc (.cells #[.int .i64 BR, .int .i64 BN] 34)) := K1.alloc _
  have eq := e1.alloc (.cells #[.int .i64 BR, .int .i64 BN] 34)
  have d2 : (W1.alloc (.cells #[.int .i64 BR, .int .i64 BN] 34)).cell? ⟨g, o + 2, none⟩ = _ := (kq.cell hg id).trans c2
  go_wp2_with fail
  obtain ⟨b4, hb4⟩ : ∃ b, b = W1.heap.size := ⟨_, rfl⟩
  rw [← hb4] at q2 z1 ⊢
  have hl4 : b4 < (W1.alloc (.cells #[.int .i64 BR, .int .i64 BN] 34)).heap.size := by rw [hb4]; simp
  generalize W1.alloc (.cells #[.int .i64 BR, .int .i64 BN] 34) = W2 at q0 q1 q2 kq eq hl4 ⊢
  clear hb4 d2 p0 p1 e1 K1
  refine (R2 _ eq).mono ?_
  rintro e W3 ⟨o2, rfl, k2⟩
  have K3 := kq.trans k2
  have r0 := k2.heap q0 id
  have r1 := k2.heap q1 id
  have r2 := k2.heap q2 id
  have e3 := hE.no K3
  have z3 := k2.size
  clear R2 q0 q1 q2 kq eq k2
  have s3 : (W3.alloc (.cells #[.int .i64 DR, .int .i64 DN] 34)).heap[W3.heap.size]? = some (.cells #[.int .i64 DR, .int .i64 DN] 34 (0, 0)) := heap_alloc_new _ _
  have s0 := heap_alloc_keep r0 (.cells #[.int .i64 DR, .int .i64 DN] 34)
  have s1 := heap_alloc_keep r1 (.cells #[.int .i64 DR, .int .i64 DN] 34)
  have s2 := heap_alloc_keep r2 (.cells #[.int .i64 DR, .int .i64 DN] 34)
  have ks : Keeps No w (W3.alloc (.cells #[.int .i64 DR, .int .i64 DN] 34)) := K3.alloc _
  have es := e3.alloc (.cells #[.int .i64 DR, .int .i64 DN] 34)
  have d3 : (W3.alloc (.cells #[.int .i64 DR, .int .i64 DN] 34)).cell? ⟨g, o + 3, none⟩ = _ := (ks.cell hg id).trans c3
  go_wp2_with fail
  obtain ⟨b6, hb6⟩ : ∃ b, b = W3.heap.size := ⟨_, rfl⟩
  rw [← hb6] at s3 z3 ⊢
  have hl6 : b6 < (W3.alloc (.cells #[.int .i64 DR, .int .i64 DN] 34)).heap.size := by rw [hb6]; simp
  generalize W3.alloc (.cells #[.int .i64 DR, .int .i64 DN] 34) = W4 at s0 s1 s2 s3 ks es hl6 ⊢
  clear hb6 d3 r0 r1 r2 e3 K3
  refine (R3 _ es).mono ?_
  rintro e W5 ⟨o3, rfl, k3⟩
  have K5 := ks.trans k3
  have t0 := k3.heap s0 id
  have t1 := k3.heap s1 id
  have t2 := k3.heap s2 id
  have t3 := k3.heap s3 id
  have z5 := k3.size
  clear R3 s0 s1 s2 s3 ks es k3
  have u4 : (W5.alloc (.cells #[.int .i64 OR, .int .i64 ON] 34)).heap[W5.heap.size]? = some (.cells #[.int .i64 OR, .int .i64 ON] 34 (0, 0)) := heap_alloc_new _ _
  have u0 := heap_alloc_keep t0 (.cells #[.int .i64 OR, .int .i64 ON] 34)
  have u1 := heap_alloc_keep t1 (.cells #[.int .i64 OR, .int .i64 ON] 34)
  have u2 := heap_alloc_keep t2 (.cells #[.int .i64 OR, .int .i64 ON] 34)
  have u3 := heap_alloc_keep t3 (.cells #[.int .i64 OR, .int .i64 ON] 34)
  have ku : Keeps No w (W5.alloc (.cells #[.int .i64 OR, .int .i64 ON] 34)) := K5.alloc _
  have d0 : (W5.alloc (.cells #[.int .i64 OR, .int .i64 ON] 34)).cell? ⟨g, o, none⟩ = _ := (ku.cell hg id).trans c0
  have d1 : (W5.alloc (.cells #[.int .i64 OR, .int .i64 ON] 34)).cell? ⟨g, o + 1, none⟩ = _ := (ku.cell hg id).trans c1
  have d2 : (W5.alloc (.cells #[.int .i64 OR, .int .i64 ON] 34)).cell? ⟨g, o + 2, none⟩ = _ := (ku.cell hg id).trans c2
  have d3 : (W5.alloc (.cells #[.int .i64 OR, .int .i64 ON] 34)).cell? ⟨g, o + 3, none⟩ = _ := (ku.cell hg id).trans c3
  have g0 := Lib.cell_of_heap u0
  have f0 := Lib.frozen_of_heap u0
  have g1 := Lib.cell_of_heap u1
  have f1 := Lib.frozen_of_heap u1
  have g2 := Lib.cell_of_heap u2
  have g3 := Lib.cell_of_heap u3
  have g4 := Lib.cell_of_heap u4
  have ne1 : w.heap.size ≠ w.heap.size + 1 := by omega
  have ne2 : w.heap.size + 1 ≠ w.heap.size := by omega
  have ne3 : ¬ b4 = w.heap.size + 1 := by omega
  have ne4 : ¬ b6 = w.heap.size + 1 := by omega
  have ne5 : ¬ W5.heap.size = w.heap.size + 1 := by omega
  have ne6 : ¬ w.heap.size + 1 = b4 := by omega
  have ne7 : ¬ w.heap.size + 1 = b6 := by omega
  have ne8 : ¬ w.heap.size + 1 = W5.heap.size := by omega
  have ne9 : b4 ≠ w.heap.size := by omega
  have ne10 : b6 ≠ w.heap.size := by omega
  have ne11 : g ≠ w.heap.size := by omega
  have hgW : g < (W5.alloc (.cells #[.int .i64 OR, .int .i64 ON] 34)).heap.size := Nat.lt_of_lt_of_le hg ku.size
  have hff : Hid (decide (x1 = Off.sIn) = f) := by show _ = _; rw [← hf'.out]; exact (beq_in x1).symm
  go_wp2
  clear t0 t1 t2 t3
  generalize (W5.alloc (.cells #[.int .i64 OR, .int .i64 ON] 34)) = WW at *
  clear g0 f0 g1 f1 g2 g3 g4
  go_loopw [10] (fun i wr => ∃ k : Nat, 5 ≤ k ∧ k ≤ 12 ∧ i = .int .i64 k ∧ Hid (∀ m : Nat, 5 ≤ m → m < k → nameW m false ≠ x0) ∧ Keeps No WW wr) (fun i _ => 12 - (intOf i).toNat)
  case atStart => exact ⟨5, by omega, by omega, rfl, fun m h1 h2 => by omega, Keeps.refl _ _⟩
  case round =>
    obtain ⟨k, h5, h12, rfl, hN, kr⟩ := hrel
    have v0 := kr.heap u0 id
    have v1 := kr.heap u1 id
    have v2 := kr.heap u2 id
    have dd0 := (kr.cell hgW id).trans d0
    by_cases hk : k ≤ 11
    · have hki : (k : Int) ≤ 11 := by omega
      have cN : ∀ d os, Calls Tryz.prog 112 #[.agg #[.int .i64 k, .int .i64 0, .int .i64 0, .int .i64 0, .int .i64 0, .string ⟨#[]⟩, .bool false, .int .i64 0, .int .i64 0]] (Sort.grow (redrawn wr d) os) fun e w'' => e = .returned (.string ⟨(nameW k false).toArray⟩) ∧ ∃ p : Regrown, w'' = Sort.grow (redrawn wr p.d) p.os :=
        fun d os => calls_regrown (refNames_any ⟨k, .z, 0, 0, [], false, .z⟩ _)
      have dd := cell_regrown dd0
      by_cases hm : nameW k false = x0
      · have hh := Lib.hid (kind_hit h5 hk hm)
        have hb : (nameW k false == x0) = true := by rw [hm]; exact beq_self_eq_true x0
        clear hm hN
        generalize nameW k false = nm at cN hb
        go_wp2
        refine wp_region_quiet_below (by kernel_rfl) (by kernel_rfl) ?_
        repeat (quiet_step (exact cN _ _))
        refine wpQuiet_nil ?_
        intro _ hw'
        obtain ⟨⟨dq, osq⟩, hw''⟩ := hw'
        subst hw''
        have kq : Keeps No wr (Sort.grow (redrawn wr dq) osq) := keeps_regrown wr dq osq
        clear cN dd
        generalize Sort.grow (redrawn wr dq) osq = W9 at kq ⊢
        have y0 := kq.heap v0 id
        have y1 := Lib.cell_of_heap y0
        have y2 := Lib.frozen_of_heap y0
        have y3 := Lib.cell_of_heap (kq.heap v2 id)
        have K9 := (ku.trans kr).trans kq
        go_wp2
        have v9 := heap_fill9 y0 (.int .i64 k) (.int .i64 BR) (.int .i64 BN) (.int .i64 0) (.int .i64 0) (.string ⟨#[]⟩) (.bool false) (.int .i64 0) (.int .i64 0)
        refine bodyPost_ret (res_ask v9 rfl) rfl ⟨?_, Keeps.fill9 K9 (Nat.le_refl _) _ _ _ _ _ _ _ _ _⟩
        unfold otherCmd
        rw [hh.out]
        simp only
        rw [HB.out]
        rfl
      · have hN' : Hid (∀ m : Nat, 5 ≤ m → m < k + 1 → nameW m false ≠ x0) := fun m h1 h2 => by
          rcases Nat.lt_or_ge m k with h | h
          · exact hN.out m h1 h
          · obtain rfl : m = k := by omega
            exact hm
        have hb : (nameW k false == x0) = false := beq_false_of_ne hm
        clear hm hN
        generalize nameW k false = nm at cN hb
        go_wp2
        refine wp_region_quiet_below (by kernel_rfl) (by kernel_rfl) ?_
        repeat (quiet_step (exact cN _ _))
        refine wpQuiet_nil ?_
        intro _ hw'
        obtain ⟨⟨dq, osq⟩, hw''⟩ := hw'
        subst hw''
        have kq : Keeps No wr (Sort.grow (redrawn wr dq) osq) := keeps_regrown wr dq osq
        clear cN dd
        generalize Sort.grow (redrawn wr dq) osq = W9 at kq ⊢
        have K9 := kr.trans kq
        go_wp2
        go_roundw
        case rel => exact ⟨k + 1, by omega, by omega, by go_num, hN', K9⟩
        case measure => simp [intOf]; omega
    · obtain rfl : k = 12 := by omega
      have hh := Lib.hid (kind_none hN.out)
      have hki : ¬ ((12 : Nat) : Int) ≤ 11 := by omega
      have y1 := Lib.cell_of_heap v0
      have y2 := Lib.frozen_of_heap v0
      have y3 := Lib.cell_of_heap v1
      have K9 := ku.trans kr
      clear hN
      go_wp2
      have v9 := heap_fill9 v0 (.int .i64 0) (.int .i64 0) (.int .i64 0) (.int .i64 0) (.int .i64 0) (.string ⟨#[]⟩) (.bool f) (.int .i64 0) (.int .i64 0)
      refine bodyPost_ret (res_ask v9 rfl) rfl ⟨?_, Keeps.fill9 K9 (Nat.le_refl _) _ _ _ _ _ _ _ _ _⟩
      unfold otherCmd
      rw [hh.out]
      simp only
      rw [hff.out]
      rfl

theorem askW_four (x0 x1 x2 x3 : List UInt8) (r : List (List UInt8)) : Off.askW (x0 :: x1 :: x2 :: x3 :: r) = Off.askW [x0, x1, x2, x3] := rfl
theorem askW_other {x0 x1 x2 x3 : List UInt8} (q1 : x0 ≠ Off.sNew) (q2 : x0 ≠ Off.sMove) (q3 : x0 ≠ Off.sType) (q4 : x0 ≠ Off.sErase) (q5 : x0 ≠ Off.sPlace) (q6 : x0 ≠ Off.sSplit) (q7 : x0 ≠ Off.sFold) (q8 : x0 ≠ Off.sUnfold) :
    Off.askW [x0, x1, x2, x3] = otherCmd x0 x1 := by
  unfold Off.askW otherCmd
  have e0 : Off.gw [x0, x1, x2, x3] 0 = x0 := rfl
  simp only [e0]
  rw [if_neg q1, if_neg q2, if_neg q3, if_neg q4, if_neg q5, if_neg q6, if_neg q7, if_neg q8]
  rfl

theorem ask_any (g o n c : Nat) (x0 x1 x2 x3 : List UInt8) (w : World) (hE : Env w) (hA : AskAt g o n x0 x1 x2 x3 w) :
    Calls Tryz.prog 70 #[.slice (some ⟨g, o, none⟩) n c] w (AskPost (Off.askW [x0, x1, x2, x3]) w) := by
  by_cases q1 : x0 = Off.sNew
  · subst q1; exact ask_new g o n c x1 x2 x3 w hE hA
  by_cases q2 : x0 = Off.sMove
  · subst q2; exact ask_move g o n c x1 x2 x3 w hE hA
  by_cases q3 : x0 = Off.sType
  · subst q3; exact ask_type g o n c x1 x2 x3 w hE hA
  by_cases q4 : x0 = Off.sErase
  · subst q4; exact ask_erase g o n c x1 x2 x3 w hE hA
  by_cases q5 : x0 = Off.sPlace
  · subst q5; exact ask_place g o n c x1 x2 x3 w hE hA
  by_cases q6 : x0 = Off.sSplit
  · subst q6; exact ask_split g o n c x1 x2 x3 w hE hA
  by_cases q7 : x0 = Off.sFold
  · subst q7; exact ask_fold g o n c x1 x2 x3 w hE hA
  by_cases q8 : x0 = Off.sUnfold
  · subst q8; exact ask_unfold g o n c x1 x2 x3 w hE hA
  rw [askW_other q1 q2 q3 q4 q5 q6 q7 q8]
  exact ask_other g o n c x0 x1 x2 x3 w hE hA (beq_false_of_ne q1) (beq_false_of_ne q2) (beq_false_of_ne q3) (beq_false_of_ne q4) (beq_false_of_ne q5) (beq_false_of_ne q6) (beq_false_of_ne q7) (beq_false_of_ne q8)

end Go.Proofs.YtkpenijilnagjaaGreatDoor
