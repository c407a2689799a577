/- offshootref25.command: a command as words, and as those tell it. -/
import Derived.Test.YtkpenijilnagjaaGreatDoorQuietTail
import Derived.Test.YtkpenijilnagjaaGreatDoorRefC
import Derived.Test.YtkpenijilnagjaaGreatDoorCmd
import Derived.Test.YtkpenijilnagjaaGreatDoorLCmdBase
import Derived.Test.YtkpenijilnagjaaGreatDoorShowBase
namespace Go.Proofs.YtkpenijilnagjaaGreatDoor
open Go.RowKit

/-- how command ends -/
def RCmdPost (t : List UInt8) (c : Off.Cmd) (w : World) (e : Ending) (w' : World) : Prop := e = .returned (.tuple #[.string ⟨t.toArray⟩, cmdV c]) ∧ Keeps No w w'
theorem RCmdPost.mk {t : List UInt8} {u : ByteArray} {c d : Off.Cmd} {v : Value} {w w' : World} (hv : v = .tuple #[.string u, cmdV d]) (ht : u = ⟨t.toArray⟩) (hd : d = c) (k : Keeps No w w') : RCmdPost t c w (.returned v) w' := by subst hv ht hd; exact ⟨rfl, k⟩

theorem res_rcmd {w : World} {b : Nat} {u v0 v1 v2 v3 v4 v5 v6 v7 v8 : Value} {tmps : Array Value} (h : w.heap[b]? = some (.cells #[v0, v1, v2, v3, v4, v5, v6, v7, v8] 77 (0, 0)))
    (h2 : tmps[2]?.getD undef = u) (ht : tmps[3]?.getD undef = .pointer (some ⟨b, 0, none⟩)) :
    (results Tryz.f73 tmps).run Tryz.prog w = .ok (.tuple #[u, .agg #[v0, v1, v2, v3, v4, v5, v6, v7, v8]]) w := by
  have c := Lib.cell_of_heap h
  simp [results, Tryz.results73, go_sem, ht, h2, c]
theorem cat1 (a b : List UInt8) : ByteArray.mk a.toArray ++ ByteArray.mk b.toArray = ByteArray.mk (a ++ b).toArray := by rw [bytes_app]; simp

theorem nameW_len (k : Int) (f : Bool) : (nameW k f).length ≤ 10 := by
  unfold nameW
  repeat' split
  all_goals decide
theorem plain_words (k R N p n : Int) (tx : List UInt8) (f : Bool) (R2 N2 : Int) (hk : 5 ≤ k ∧ k ≤ 12) : Off.joinW (Off.cmdWords ⟨k, ⟨R, N⟩, p, n, tx, f, ⟨R2, N2⟩⟩) = nameW k f ++ 32 :: Off.showId ⟨R, N⟩ := by
  have hw : Off.plainW ⟨k, ⟨R, N⟩, p, n, tx, f, ⟨R2, N2⟩⟩ = nameW k f := by
    unfold Off.plainW nameW
    simp only
    by_cases h12 : k = 12
    · subst h12; rfl
    · have : k = 5 ∨ k = 6 ∨ k = 7 ∨ k = 8 ∨ k = 9 ∨ k = 10 ∨ k = 11 := by omega
      rcases this with rfl | rfl | rfl | rfl | rfl | rfl | rfl <;> rfl
  unfold Off.cmdWords
  simp only
  rw [if_neg (by omega), if_neg (by omega), if_neg (by omega), if_neg (by omega), if_neg (by omega), if_neg (by omega), hw]
  rfl
theorem plain_told (k R N p n : Int) (tx : List UInt8) (f : Bool) (R2 N2 : Int) (hk : 5 ≤ k ∧ k ≤ 12) : (⟨k, ⟨R, N⟩, 0, 0, [], decide (k = 12) && f, ⟨0, 0⟩⟩ : Off.Cmd) = Off.cmdTold ⟨k, ⟨R, N⟩, p, n, tx, f, ⟨R2, N2⟩⟩ := by
  unfold Off.cmdTold
  simp only
  rw [if_neg (by omega), if_neg (by omega), if_neg (by omega), if_neg (by omega), if_neg (by omega), if_neg (by omega)]
  rfl
theorem plain_none (k R N p n : Int) (tx : List UInt8) (f : Bool) (R2 N2 : Int) (hk : 5 ≤ k ∧ k ≤ 11) : (⟨k, ⟨R, N⟩, 0, 0, [], false, ⟨0, 0⟩⟩ : Off.Cmd) = Off.cmdTold ⟨k, ⟨R, N⟩, p, n, tx, f, ⟨R2, N2⟩⟩ := by
  rw [← plain_told k R N p n tx f R2 N2 ⟨hk.1, by omega⟩, decide_eq_false (by omega)]
  rfl

set_option maxRecDepth 100000 in
set_option maxHeartbeats 4000000 in
theorem rcmd_split_true (R N p n : Int) (tx : List UInt8) (R2 N2 : Int) (w : World) (hE : Env w) (hF : CmdFits ⟨4, ⟨R, N⟩, p, n, tx, true, ⟨R2, N2⟩⟩) :
    Calls Tryz.prog 73 #[cmdV ⟨4, ⟨R, N⟩, p, n, tx, true, ⟨R2, N2⟩⟩] w (RCmdPost (Off.joinW (Off.cmdWords ⟨4, ⟨R, N⟩, p, n, tx, true, ⟨R2, N2⟩⟩)) (Off.cmdTold ⟨4, ⟨R, N⟩, p, n, tx, true, ⟨R2, N2⟩⟩) w) := by
  have hz := hE.size
  obtain ⟨hI1, hI2, hJ1, hJ2, hp, hn, ht⟩ := hF
  simp only at hI1 hI2 hJ1 hJ2 hp hn ht
  have cS := fun w1 h => refShow_any R N w1 h
  have lS := showId_len ⟨R, N⟩ hI1 hI2
  generalize hsh : Off.showId ⟨R, N⟩ = sh at cS lS
  have Hsh := Lib.hid hsh
  clear hsh
  obtain ⟨a0, a1⟩ := two_boxes w (.cells #[.int .i64 4, .int .i64 R, .int .i64 N, .int .i64 p, .int .i64 n, .string ⟨tx.toArray⟩, .bool true, .int .i64 R2, .int .i64 N2] 77) (.cells #[.int .i64 0, .int .i64 0, .int .i64 0, .int .i64 0, .int .i64 0, .string ⟨#[]⟩, .bool false, .int .i64 0, .int .i64 0] 77)
  have kw : Keeps No w ((w.alloc (.cells #[.int .i64 4, .int .i64 R, .int .i64 N, .int .i64 p, .int .i64 n, .string ⟨tx.toArray⟩, .bool true, .int .i64 R2, .int .i64 N2] 77)).alloc (.cells #[.int .i64 0, .int .i64 0, .int .i64 0, .int .i64 0, .int .i64 0, .string ⟨#[]⟩, .bool false, .int .i64 0, .int .i64 0] 77)) := ((Keeps.refl _ _).alloc _).alloc _
  have hEw := hE.no kw
  have zW : ((w.alloc (.cells #[.int .i64 4, .int .i64 R, .int .i64 N, .int .i64 p, .int .i64 n, .string ⟨tx.toArray⟩, .bool true, .int .i64 R2, .int .i64 N2] 77)).alloc (.cells #[.int .i64 0, .int .i64 0, .int .i64 0, .int .i64 0, .int .i64 0, .string ⟨#[]⟩, .bool false, .int .i64 0, .int .i64 0] 77)).heap.size = w.heap.size + 2 := by simp
  go_enter Tryz.func73, Tryz.ntmps73
  go_wp2_with fail
  generalize (w.alloc (.cells #[.int .i64 4, .int .i64 R, .int .i64 N, .int .i64 p, .int .i64 n, .string ⟨tx.toArray⟩, .bool true, .int .i64 R2, .int .i64 N2] 77)).alloc (.cells #[.int .i64 0, .int .i64 0, .int .i64 0, .int .i64 0, .int .i64 0, .string ⟨#[]⟩, .bool false, .int .i64 0, .int .i64 0] 77) = W0 at a0 a1 kw hEw zW ⊢
  refine (cS _ hEw).mono ?_
  rintro e w1 ⟨rfl, k1⟩
  have b0 := k1.heap a0 id
  have b1 := k1.heap a1 id
  have K1 := kw.trans k1
  have z1 : w.heap.size + 2 ≤ w1.heap.size := by have := k1.size; omega
  have hE1 := hE.no K1
  have c0 := Lib.cell_of_heap b0
  have ne1 : ¬ w.heap.size = w1.heap.size := by omega
  have ne2 : ¬ w.heap.size + 1 = w1.heap.size := by omega
  have lt1 : w.heap.size < w1.heap.size := by omega
  have lt2 : w.heap.size + 1 < w1.heap.size := by omega
  clear a0 a1 kw hEw zW cS k1
  have cN : ∀ m : Int, Off.I64 m → ∀ W d os, Calls Tryz.prog 71 #[.int .i64 m] (Sort.grow (redrawn W d) os) fun e w'' => e = .returned (.string ⟨(Lib.itoa m).toArray⟩) ∧ ∃ q : Regrown, w'' = Sort.grow (redrawn W q.d) q.os :=
    fun m hm W d os => calls_regrown (refNumber_any m hm _)
  have lN := itoa_len p hp
  have m0 : ¬ 9223372036854775807 < 6 + sh.length := by omega
  have m1 : ¬ 9223372036854775807 < 6 + sh.length + 1 := by omega
  have m2 : ¬ 9223372036854775807 < 6 + sh.length + 1 + (Lib.itoa p).length := by omega
  go_wp2
  have d0 : (w1.alloc (.cells #[.int .i64 4, .int .i64 R, .int .i64 N, .int .i64 p, .int .i64 0, .string ⟨#[]⟩, .bool false, .int .i64 0, .int .i64 0] 77)).heap[w.heap.size]? = _ := heap_alloc_keep b0 _
  have d1 : (w1.alloc (.cells #[.int .i64 4, .int .i64 R, .int .i64 N, .int .i64 p, .int .i64 0, .string ⟨#[]⟩, .bool false, .int .i64 0, .int .i64 0] 77)).heap[w.heap.size + 1]? = _ := heap_alloc_keep b1 _
  have d2 : (w1.alloc (.cells #[.int .i64 4, .int .i64 R, .int .i64 N, .int .i64 p, .int .i64 0, .string ⟨#[]⟩, .bool false, .int .i64 0, .int .i64 0] 77)).heap[w1.heap.size]? = _ := heap_alloc_new w1 _
  have KW : Keeps No w (w1.alloc (.cells #[.int .i64 4, .int .i64 R, .int .i64 N, .int .i64 p, .int .i64 0, .string ⟨#[]⟩, .bool false, .int .i64 0, .int .i64 0] 77)) := K1.alloc _
  have hEW := hE1.alloc (.cells #[.int .i64 4, .int .i64 R, .int .i64 N, .int .i64 p, .int .i64 0, .string ⟨#[]⟩, .bool false, .int .i64 0, .int .i64 0] 77)
  generalize w1.alloc (.cells #[.int .i64 4, .int .i64 R, .int .i64 N, .int .i64 p, .int .i64 0, .string ⟨#[]⟩, .bool false, .int .i64 0, .int .i64 0] 77) = WW at d0 d1 d2 KW hEW ⊢
  have hB := Lib.cell_of_heap d0
  have hT := Lib.cell_of_heap d2
  have x0 : ∀ d os, (Sort.grow (redrawn WW d) os).cell? ⟨w.heap.size, 0, none⟩ = some (.int .i64 4) := cell_regrown (hB 0)
  have x1 : ∀ d os, (Sort.grow (redrawn WW d) os).cell? ⟨w.heap.size, 1, none⟩ = some (.int .i64 R) := cell_regrown (hB 1)
  have x2 : ∀ d os, (Sort.grow (redrawn WW d) os).cell? ⟨w.heap.size, 2, none⟩ = some (.int .i64 N) := cell_regrown (hB 2)
  have x3 : ∀ d os, (Sort.grow (redrawn WW d) os).cell? ⟨w.heap.size, 3, none⟩ = some (.int .i64 p) := cell_regrown (hB 3)
  have x4 : ∀ d os, (Sort.grow (redrawn WW d) os).cell? ⟨w.heap.size, 4, none⟩ = some (.int .i64 n) := cell_regrown (hB 4)
  have x5 : ∀ d os, (Sort.grow (redrawn WW d) os).cell? ⟨w.heap.size, 5, none⟩ = some (.string ⟨tx.toArray⟩) := cell_regrown (hB 5)
  have x6 : ∀ d os, (Sort.grow (redrawn WW d) os).cell? ⟨w.heap.size, 6, none⟩ = some (.bool true) := cell_regrown (hB 6)
  have x7 : ∀ d os, (Sort.grow (redrawn WW d) os).cell? ⟨w.heap.size, 7, none⟩ = some (.int .i64 R2) := cell_regrown (hB 7)
  have x8 : ∀ d os, (Sort.grow (redrawn WW d) os).cell? ⟨w.heap.size, 8, none⟩ = some (.int .i64 N2) := cell_regrown (hB 8)
  have t0 : ∀ d os, (Sort.grow (redrawn WW d) os).cell? ⟨w1.heap.size, 0, none⟩ = some (.int .i64 4) := cell_regrown (hT 0)
  have t1 : ∀ d os, (Sort.grow (redrawn WW d) os).cell? ⟨w1.heap.size, 1, none⟩ = some (.int .i64 R) := cell_regrown (hT 1)
  have t2 : ∀ d os, (Sort.grow (redrawn WW d) os).cell? ⟨w1.heap.size, 2, none⟩ = some (.int .i64 N) := cell_regrown (hT 2)
  have t3 : ∀ d os, (Sort.grow (redrawn WW d) os).cell? ⟨w1.heap.size, 3, none⟩ = some (.int .i64 p) := cell_regrown (hT 3)
  have t4 : ∀ d os, (Sort.grow (redrawn WW d) os).cell? ⟨w1.heap.size, 4, none⟩ = some (.int .i64 0) := cell_regrown (hT 4)
  have t5 : ∀ d os, (Sort.grow (redrawn WW d) os).cell? ⟨w1.heap.size, 5, none⟩ = some (.string ⟨#[]⟩) := cell_regrown (hT 5)
  have t6 : ∀ d os, (Sort.grow (redrawn WW d) os).cell? ⟨w1.heap.size, 6, none⟩ = some (.bool false) := cell_regrown (hT 6)
  have t7 : ∀ d os, (Sort.grow (redrawn WW d) os).cell? ⟨w1.heap.size, 7, none⟩ = some (.int .i64 0) := cell_regrown (hT 7)
  have t8 : ∀ d os, (Sort.grow (redrawn WW d) os).cell? ⟨w1.heap.size, 8, none⟩ = some (.int .i64 0) := cell_regrown (hT 8)
  clear hB hT c0 b0 b1
  refine wp_region_grown_tail 9 (by kernel_rfl) (by kernel_rfl) ?_
  simp only [List.take_succ_cons, List.take_zero, List.drop_succ_cons, List.drop_zero]
  repeat (quiet_step (exact cN _ (by assumption) _ _ _))
  refine wpQuiet_nil ?_
  intro _ hw'
  obtain ⟨⟨dq, osq⟩, hw''⟩ := hw'
  subst hw''
  have kq : Keeps No WW (Sort.grow (redrawn WW dq) osq) := keeps_regrown WW dq osq
  clear x0 t0 x1 t1 x2 t2 x3 t3 x4 t4 x5 t5 x6 t6 x7 t7 x8 t8
  generalize Sort.grow (redrawn WW dq) osq = W9 at kq ⊢
  have y1 := kq.heap d1 id
  have g1 := Lib.cell_of_heap y1
  have f1 := Lib.frozen_of_heap y1
  have K9 := KW.trans kq
  go_wp2
  have v9 := heap_fill9 y1 (.int .i64 4) (.int .i64 R) (.int .i64 N) (.int .i64 p) (.int .i64 0) (.string ⟨#[]⟩) (.bool false) (.int .i64 0) (.int .i64 0)
  refine bodyPost_ret (res_rcmd v9 rfl rfl) rfl ?_
  refine RCmdPost.mk (u := ByteArray.mk #[115, 112, 108, 105, 116, 32] ++ ByteArray.mk (List.toArray (sh)) ++ ByteArray.mk #[32] ++ ByteArray.mk (List.toArray (Lib.itoa p))) (d := ⟨4, ⟨R, N⟩, p, 0, [], false, ⟨0, 0⟩⟩) rfl ?_ rfl (Keeps.fill9 K9 (Nat.le_add_right _ 1) _ _ _ _ _ _ _ _ _)
  rw [bytes_app, bytes_app, bytes_app]
  refine congrArg ByteArray.mk ?_
  apply Array.ext'
  show _ = [115, 112, 108, 105, 116] ++ 32 :: (Off.showId ⟨R, N⟩ ++ 32 :: (Lib.itoa p))
  rw [Hsh.out]
  simp

set_option maxRecDepth 100000 in
set_option maxHeartbeats 4000000 in
theorem rcmd_erase_true (R N p n : Int) (tx : List UInt8) (R2 N2 : Int) (w : World) (hE : Env w) (hF : CmdFits ⟨3, ⟨R, N⟩, p, n, tx, true, ⟨R2, N2⟩⟩) :
    Calls Tryz.prog 73 #[cmdV ⟨3, ⟨R, N⟩, p, n, tx, true, ⟨R2, N2⟩⟩] w (RCmdPost (Off.joinW (Off.cmdWords ⟨3, ⟨R, N⟩, p, n, tx, true, ⟨R2, N2⟩⟩)) (Off.cmdTold ⟨3, ⟨R, N⟩, p, n, tx, true, ⟨R2, N2⟩⟩) w) := by
  have hz := hE.size
  obtain ⟨hI1, hI2, hJ1, hJ2, hp, hn, ht⟩ := hF
  simp only at hI1 hI2 hJ1 hJ2 hp hn ht
  have cS := fun w1 h => refShow_any R N w1 h
  have lS := showId_len ⟨R, N⟩ hI1 hI2
  generalize hsh : Off.showId ⟨R, N⟩ = sh at cS lS
  have Hsh := Lib.hid hsh
  clear hsh
  obtain ⟨a0, a1⟩ := two_boxes w (.cells #[.int .i64 3, .int .i64 R, .int .i64 N, .int .i64 p, .int .i64 n, .string ⟨tx.toArray⟩, .bool true, .int .i64 R2, .int .i64 N2] 77) (.cells #[.int .i64 0, .int .i64 0, .int .i64 0, .int .i64 0, .int .i64 0, .string ⟨#[]⟩, .bool false, .int .i64 0, .int .i64 0] 77)
  have kw : Keeps No w ((w.alloc (.cells #[.int .i64 3, .int .i64 R, .int .i64 N, .int .i64 p, .int .i64 n, .string ⟨tx.toArray⟩, .bool true, .int .i64 R2, .int .i64 N2] 77)).alloc (.cells #[.int .i64 0, .int .i64 0, .int .i64 0, .int .i64 0, .int .i64 0, .string ⟨#[]⟩, .bool false, .int .i64 0, .int .i64 0] 77)) := ((Keeps.refl _ _).alloc _).alloc _
  have hEw := hE.no kw
  have zW : ((w.alloc (.cells #[.int .i64 3, .int .i64 R, .int .i64 N, .int .i64 p, .int .i64 n, .string ⟨tx.toArray⟩, .bool true, .int .i64 R2, .int .i64 N2] 77)).alloc (.cells #[.int .i64 0, .int .i64 0, .int .i64 0, .int .i64 0, .int .i64 0, .string ⟨#[]⟩, .bool false, .int .i64 0, .int .i64 0] 77)).heap.size = w.heap.size + 2 := by simp
  go_enter Tryz.func73, Tryz.ntmps73
  go_wp2_with fail
  generalize (w.alloc (.cells #[.int .i64 3, .int .i64 R, .int .i64 N, .int .i64 p, .int .i64 n, .string ⟨tx.toArray⟩, .bool true, .int .i64 R2, .int .i64 N2] 77)).alloc (.cells #[.int .i64 0, .int .i64 0, .int .i64 0, .int .i64 0, .int .i64 0, .string ⟨#[]⟩, .bool false, .int .i64 0, .int .i64 0] 77) = W0 at a0 a1 kw hEw zW ⊢
  refine (cS _ hEw).mono ?_
  rintro e w1 ⟨rfl, k1⟩
  have b0 := k1.heap a0 id
  have b1 := k1.heap a1 id
  have K1 := kw.trans k1
  have z1 : w.heap.size + 2 ≤ w1.heap.size := by have := k1.size; omega
  have hE1 := hE.no K1
  have c0 := Lib.cell_of_heap b0
  have ne1 : ¬ w.heap.size = w1.heap.size := by omega
  have ne2 : ¬ w.heap.size + 1 = w1.heap.size := by omega
  have lt1 : w.heap.size < w1.heap.size := by omega
  have lt2 : w.heap.size + 1 < w1.heap.size := by omega
  clear a0 a1 kw hEw zW cS k1
  have cN : ∀ m : Int, Off.I64 m → ∀ W d os, Calls Tryz.prog 71 #[.int .i64 m] (Sort.grow (redrawn W d) os) fun e w'' => e = .returned (.string ⟨(Lib.itoa m).toArray⟩) ∧ ∃ q : Regrown, w'' = Sort.grow (redrawn W q.d) q.os :=
    fun m hm W d os => calls_regrown (refNumber_any m hm _)
  have lN := itoa_len p hp
  have lN2 := itoa_len n hn
  have m0 : ¬ 9223372036854775807 < 6 + sh.length := by omega
  have m1 : ¬ 9223372036854775807 < 6 + sh.length + 1 := by omega
  have m2 : ¬ 9223372036854775807 < 6 + sh.length + 1 + (Lib.itoa p).length := by omega
  have m3 : ¬ 9223372036854775807 < 6 + sh.length + 1 + (Lib.itoa p).length + 1 := by omega
  have m4 : ¬ 9223372036854775807 < 6 + sh.length + 1 + (Lib.itoa p).length + 1 + (Lib.itoa n).length := by omega
  go_wp2
  have d0 : (w1.alloc (.cells #[.int .i64 3, .int .i64 R, .int .i64 N, .int .i64 p, .int .i64 n, .string ⟨#[]⟩, .bool false, .int .i64 0, .int .i64 0] 77)).heap[w.heap.size]? = _ := heap_alloc_keep b0 _
  have d1 : (w1.alloc (.cells #[.int .i64 3, .int .i64 R, .int .i64 N, .int .i64 p, .int .i64 n, .string ⟨#[]⟩, .bool false, .int .i64 0, .int .i64 0] 77)).heap[w.heap.size + 1]? = _ := heap_alloc_keep b1 _
  have d2 : (w1.alloc (.cells #[.int .i64 3, .int .i64 R, .int .i64 N, .int .i64 p, .int .i64 n, .string ⟨#[]⟩, .bool false, .int .i64 0, .int .i64 0] 77)).heap[w1.heap.size]? = _ := heap_alloc_new w1 _
  have KW : Keeps No w (w1.alloc (.cells #[.int .i64 3, .int .i64 R, .int .i64 N, .int .i64 p, .int .i64 n, .string ⟨#[]⟩, .bool false, .int .i64 0, .int .i64 0] 77)) := K1.alloc _
  have hEW := hE1.alloc (.cells #[.int .i64 3, .int .i64 R, .int .i64 N, .int .i64 p, .int .i64 n, .string ⟨#[]⟩, .bool false, .int .i64 0, .int .i64 0] 77)
  generalize w1.alloc (.cells #[.int .i64 3, .int .i64 R, .int .i64 N, .int .i64 p, .int .i64 n, .string ⟨#[]⟩, .bool false, .int .i64 0, .int .i64 0] 77) = WW at d0 d1 d2 KW hEW ⊢
  have hB := Lib.cell_of_heap d0
  have hT := Lib.cell_of_heap d2
  have x0 : ∀ d os, (Sort.grow (redrawn WW d) os).cell? ⟨w.heap.size, 0, none⟩ = some (.int .i64 3) := cell_regrown (hB 0)
  have x1 : ∀ d os, (Sort.grow (redrawn WW d) os).cell? ⟨w.heap.size, 1, none⟩ = some (.int .i64 R) := cell_regrown (hB 1)
  have x2 : ∀ d os, (Sort.grow (redrawn WW d) os).cell? ⟨w.heap.size, 2, none⟩ = some (.int .i64 N) := cell_regrown (hB 2)
  have x3 : ∀ d os, (Sort.grow (redrawn WW d) os).cell? ⟨w.heap.size, 3, none⟩ = some (.int .i64 p) := cell_regrown (hB 3)
  have x4 : ∀ d os, (Sort.grow (redrawn WW d) os).cell? ⟨w.heap.size, 4, none⟩ = some (.int .i64 n) := cell_regrown (hB 4)
  have x5 : ∀ d os, (Sort.grow (redrawn WW d) os).cell? ⟨w.heap.size, 5, none⟩ = some (.string ⟨tx.toArray⟩) := cell_regrown (hB 5)
  have x6 : ∀ d os, (Sort.grow (redrawn WW d) os).cell? ⟨w.heap.size, 6, none⟩ = some (.bool true) := cell_regrown (hB 6)
  have x7 : ∀ d os, (Sort.grow (redrawn WW d) os).cell? ⟨w.heap.size, 7, none⟩ = some (.int .i64 R2) := cell_regrown (hB 7)
  have x8 : ∀ d os, (Sort.grow (redrawn WW d) os).cell? ⟨w.heap.size, 8, none⟩ = some (.int .i64 N2) := cell_regrown (hB 8)
  have t0 : ∀ d os, (Sort.grow (redrawn WW d) os).cell? ⟨w1.heap.size, 0, none⟩ = some (.int .i64 3) := cell_regrown (hT 0)
  have t1 : ∀ d os, (Sort.grow (redrawn WW d) os).cell? ⟨w1.heap.size, 1, none⟩ = some (.int .i64 R) := cell_regrown (hT 1)
  have t2 : ∀ d os, (Sort.grow (redrawn WW d) os).cell? ⟨w1.heap.size, 2, none⟩ = some (.int .i64 N) := cell_regrown (hT 2)
  have t3 : ∀ d os, (Sort.grow (redrawn WW d) os).cell? ⟨w1.heap.size, 3, none⟩ = some (.int .i64 p) := cell_regrown (hT 3)
  have t4 : ∀ d os, (Sort.grow (redrawn WW d) os).cell? ⟨w1.heap.size, 4, none⟩ = some (.int .i64 n) := cell_regrown (hT 4)
  have t5 : ∀ d os, (Sort.grow (redrawn WW d) os).cell? ⟨w1.heap.size, 5, none⟩ = some (.string ⟨#[]⟩) := cell_regrown (hT 5)
  have t6 : ∀ d os, (Sort.grow (redrawn WW d) os).cell? ⟨w1.heap.size, 6, none⟩ = some (.bool false) := cell_regrown (hT 6)
  have t7 : ∀ d os, (Sort.grow (redrawn WW d) os).cell? ⟨w1.heap.size, 7, none⟩ = some (.int .i64 0) := cell_regrown (hT 7)
  have t8 : ∀ d os, (Sort.grow (redrawn WW d) os).cell? ⟨w1.heap.size, 8, none⟩ = some (.int .i64 0) := cell_regrown (hT 8)
  clear hB hT c0 b0 b1
  refine wp_region_grown_tail 14 (by kernel_rfl) (by kernel_rfl) ?_
  simp only [List.take_succ_cons, List.take_zero, List.drop_succ_cons, List.drop_zero]
  repeat (quiet_step (exact cN _ (by assumption) _ _ _))
  refine wpQuiet_nil ?_
  intro _ hw'
  obtain ⟨⟨dq, osq⟩, hw''⟩ := hw'
  subst hw''
  have kq : Keeps No WW (Sort.grow (redrawn WW dq) osq) := keeps_regrown WW dq osq
  clear x0 t0 x1 t1 x2 t2 x3 t3 x4 t4 x5 t5 x6 t6 x7 t7 x8 t8
  generalize Sort.grow (redrawn WW dq) osq = W9 at kq ⊢
  have y1 := kq.heap d1 id
  have g1 := Lib.cell_of_heap y1
  have f1 := Lib.frozen_of_heap y1
  have K9 := KW.trans kq
  go_wp2
  have v9 := heap_fill9 y1 (.int .i64 3) (.int .i64 R) (.int .i64 N) (.int .i64 p) (.int .i64 n) (.string ⟨#[]⟩) (.bool false) (.int .i64 0) (.int .i64 0)
  refine bodyPost_ret (res_rcmd v9 rfl rfl) rfl ?_
  refine RCmdPost.mk (u := ByteArray.mk #[101, 114, 97, 115, 101, 32] ++ ByteArray.mk (List.toArray (sh)) ++ ByteArray.mk #[32] ++ ByteArray.mk (List.toArray (Lib.itoa p)) ++ ByteArray.mk #[32] ++ ByteArray.mk (List.toArray (Lib.itoa n))) (d := ⟨3, ⟨R, N⟩, p, n, [], false, ⟨0, 0⟩⟩) rfl ?_ rfl (Keeps.fill9 K9 (Nat.le_add_right _ 1) _ _ _ _ _ _ _ _ _)
  rw [bytes_app, bytes_app, bytes_app, bytes_app, bytes_app]
  refine congrArg ByteArray.mk ?_
  apply Array.ext'
  show _ = [101, 114, 97, 115, 101] ++ 32 :: (Off.showId ⟨R, N⟩ ++ 32 :: (Lib.itoa p ++ 32 :: (Lib.itoa n)))
  rw [Hsh.out]
  simp

set_option maxRecDepth 100000 in
set_option maxHeartbeats 4000000 in
theorem rcmd_type_true (R N p n : Int) (tx : List UInt8) (R2 N2 : Int) (w : World) (hE : Env w) (hF : CmdFits ⟨2, ⟨R, N⟩, p, n, tx, true, ⟨R2, N2⟩⟩) :
    Calls Tryz.prog 73 #[cmdV ⟨2, ⟨R, N⟩, p, n, tx, true, ⟨R2, N2⟩⟩] w (RCmdPost (Off.joinW (Off.cmdWords ⟨2, ⟨R, N⟩, p, n, tx, true, ⟨R2, N2⟩⟩)) (Off.cmdTold ⟨2, ⟨R, N⟩, p, n, tx, true, ⟨R2, N2⟩⟩) w) := by
  have hz := hE.size
  obtain ⟨hI1, hI2, hJ1, hJ2, hp, hn, ht⟩ := hF
  simp only at hI1 hI2 hJ1 hJ2 hp hn ht
  have cS := fun w1 h => refShow_any R N w1 h
  have lS := showId_len ⟨R, N⟩ hI1 hI2
  generalize hsh : Off.showId ⟨R, N⟩ = sh at cS lS
  have Hsh := Lib.hid hsh
  clear hsh
  obtain ⟨a0, a1⟩ := two_boxes w (.cells #[.int .i64 2, .int .i64 R, .int .i64 N, .int .i64 p, .int .i64 n, .string ⟨tx.toArray⟩, .bool true, .int .i64 R2, .int .i64 N2] 77) (.cells #[.int .i64 0, .int .i64 0, .int .i64 0, .int .i64 0, .int .i64 0, .string ⟨#[]⟩, .bool false, .int .i64 0, .int .i64 0] 77)
  have kw : Keeps No w ((w.alloc (.cells #[.int .i64 2, .int .i64 R, .int .i64 N, .int .i64 p, .int .i64 n, .string ⟨tx.toArray⟩, .bool true, .int .i64 R2, .int .i64 N2] 77)).alloc (.cells #[.int .i64 0, .int .i64 0, .int .i64 0, .int .i64 0, .int .i64 0, .string ⟨#[]⟩, .bool false, .int .i64 0, .int .i64 0] 77)) := ((Keeps.refl _ _).alloc _).alloc _
  have hEw := hE.no kw
  have zW : ((w.alloc (.cells #[.int .i64 2, .int .i64 R, .int .i64 N, .int .i64 p, .int .i64 n, .string ⟨tx.toArray⟩, .bool true, .int .i64 R2, .int .i64 N2] 77)).alloc (.cells #[.int .i64 0, .int .i64 0, .int .i64 0, .int .i64 0, .int .i64 0, .string ⟨#[]⟩, .bool false, .int .i64 0, .int .i64 0] 77)).heap.size = w.heap.size + 2 := by simp
  go_enter Tryz.func73, Tryz.ntmps73
  go_wp2_with fail
  generalize (w.alloc (.cells #[.int .i64 2, .int .i64 R, .int .i64 N, .int .i64 p, .int .i64 n, .string ⟨tx.toArray⟩, .bool true, .int .i64 R2, .int .i64 N2] 77)).alloc (.cells #[.int .i64 0, .int .i64 0, .int .i64 0, .int .i64 0, .int .i64 0, .string ⟨#[]⟩, .bool false, .int .i64 0, .int .i64 0] 77) = W0 at a0 a1 kw hEw zW ⊢
  refine (cS _ hEw).mono ?_
  rintro e w1 ⟨rfl, k1⟩
  have b0 := k1.heap a0 id
  have b1 := k1.heap a1 id
  have K1 := kw.trans k1
  have z1 : w.heap.size + 2 ≤ w1.heap.size := by have := k1.size; omega
  have hE1 := hE.no K1
  have c0 := Lib.cell_of_heap b0
  have ne1 : ¬ w.heap.size = w1.heap.size := by omega
  have ne2 : ¬ w.heap.size + 1 = w1.heap.size := by omega
  have lt1 : w.heap.size < w1.heap.size := by omega
  have lt2 : w.heap.size + 1 < w1.heap.size := by omega
  clear a0 a1 kw hEw zW cS k1
  have cN : ∀ m : Int, Off.I64 m → ∀ W d os, Calls Tryz.prog 71 #[.int .i64 m] (Sort.grow (redrawn W d) os) fun e w'' => e = .returned (.string ⟨(Lib.itoa m).toArray⟩) ∧ ∃ q : Regrown, w'' = Sort.grow (redrawn W q.d) q.os :=
    fun m hm W d os => calls_regrown (refNumber_any m hm _)
  have cQ : ∀ W d os, Calls Tryz.prog 116 #[.string ⟨tx.toArray⟩] (Sort.grow (redrawn W d) os) fun e w'' => e = .returned (.string ⟨(Off.quoted tx).toArray⟩) ∧ ∃ q : Regrown, w'' = Sort.grow (redrawn W q.d) q.os :=
    fun W d os => calls_regrown (refQuoted_any tx _ ht)
  have lQ := quoted_len tx
  have lN := itoa_len p hp
  have m0 : ¬ 9223372036854775807 < 5 + sh.length := by omega
  have m1 : ¬ 9223372036854775807 < 5 + sh.length + 1 := by omega
  have m2 : ¬ 9223372036854775807 < 5 + sh.length + 1 + (Lib.itoa p).length := by omega
  have m3 : ¬ 9223372036854775807 < 5 + sh.length + 1 + (Lib.itoa p).length + 1 := by omega
  have m4 : ¬ 9223372036854775807 < 5 + sh.length + 1 + (Lib.itoa p).length + 1 + (Off.quoted tx).length := by omega
  go_wp2
  have d0 : (w1.alloc (.cells #[.int .i64 2, .int .i64 R, .int .i64 N, .int .i64 p, .int .i64 0, .string ⟨tx.toArray⟩, .bool false, .int .i64 0, .int .i64 0] 77)).heap[w.heap.size]? = _ := heap_alloc_keep b0 _
  have d1 : (w1.alloc (.cells #[.int .i64 2, .int .i64 R, .int .i64 N, .int .i64 p, .int .i64 0, .string ⟨tx.toArray⟩, .bool false, .int .i64 0, .int .i64 0] 77)).heap[w.heap.size + 1]? = _ := heap_alloc_keep b1 _
  have d2 : (w1.alloc (.cells #[.int .i64 2, .int .i64 R, .int .i64 N, .int .i64 p, .int .i64 0, .string ⟨tx.toArray⟩, .bool false, .int .i64 0, .int .i64 0] 77)).heap[w1.heap.size]? = _ := heap_alloc_new w1 _
  have KW : Keeps No w (w1.alloc (.cells #[.int .i64 2, .int .i64 R, .int .i64 N, .int .i64 p, .int .i64 0, .string ⟨tx.toArray⟩, .bool false, .int .i64 0, .int .i64 0] 77)) := K1.alloc _
  have hEW := hE1.alloc (.cells #[.int .i64 2, .int .i64 R, .int .i64 N, .int .i64 p, .int .i64 0, .string ⟨tx.toArray⟩, .bool false, .int .i64 0, .int .i64 0] 77)
  generalize w1.alloc (.cells #[.int .i64 2, .int .i64 R, .int .i64 N, .int .i64 p, .int .i64 0, .string ⟨tx.toArray⟩, .bool false, .int .i64 0, .int .i64 0] 77) = WW at d0 d1 d2 KW hEW ⊢
  have hB := Lib.cell_of_heap d0
  have hT := Lib.cell_of_heap d2
  have x0 : ∀ d os, (Sort.grow (redrawn WW d) os).cell? ⟨w.heap.size, 0, none⟩ = some (.int .i64 2) := cell_regrown (hB 0)
  have x1 : ∀ d os, (Sort.grow (redrawn WW d) os).cell? ⟨w.heap.size, 1, none⟩ = some (.int .i64 R) := cell_regrown (hB 1)
  have x2 : ∀ d os, (Sort.grow (redrawn WW d) os).cell? ⟨w.heap.size, 2, none⟩ = some (.int .i64 N) := cell_regrown (hB 2)
  have x3 : ∀ d os, (Sort.grow (redrawn WW d) os).cell? ⟨w.heap.size, 3, none⟩ = some (.int .i64 p) := cell_regrown (hB 3)
  have x4 : ∀ d os, (Sort.grow (redrawn WW d) os).cell? ⟨w.heap.size, 4, none⟩ = some (.int .i64 n) := cell_regrown (hB 4)
  have x5 : ∀ d os, (Sort.grow (redrawn WW d) os).cell? ⟨w.heap.size, 5, none⟩ = some (.string ⟨tx.toArray⟩) := cell_regrown (hB 5)
  have x6 : ∀ d os, (Sort.grow (redrawn WW d) os).cell? ⟨w.heap.size, 6, none⟩ = some (.bool true) := cell_regrown (hB 6)
  have x7 : ∀ d os, (Sort.grow (redrawn WW d) os).cell? ⟨w.heap.size, 7, none⟩ = some (.int .i64 R2) := cell_regrown (hB 7)
  have x8 : ∀ d os, (Sort.grow (redrawn WW d) os).cell? ⟨w.heap.size, 8, none⟩ = some (.int .i64 N2) := cell_regrown (hB 8)
  have t0 : ∀ d os, (Sort.grow (redrawn WW d) os).cell? ⟨w1.heap.size, 0, none⟩ = some (.int .i64 2) := cell_regrown (hT 0)
  have t1 : ∀ d os, (Sort.grow (redrawn WW d) os).cell? ⟨w1.heap.size, 1, none⟩ = some (.int .i64 R) := cell_regrown (hT 1)
  have t2 : ∀ d os, (Sort.grow (redrawn WW d) os).cell? ⟨w1.heap.size, 2, none⟩ = some (.int .i64 N) := cell_regrown (hT 2)
  have t3 : ∀ d os, (Sort.grow (redrawn WW d) os).cell? ⟨w1.heap.size, 3, none⟩ = some (.int .i64 p) := cell_regrown (hT 3)
  have t4 : ∀ d os, (Sort.grow (redrawn WW d) os).cell? ⟨w1.heap.size, 4, none⟩ = some (.int .i64 0) := cell_regrown (hT 4)
  have t5 : ∀ d os, (Sort.grow (redrawn WW d) os).cell? ⟨w1.heap.size, 5, none⟩ = some (.string ⟨tx.toArray⟩) := cell_regrown (hT 5)
  have t6 : ∀ d os, (Sort.grow (redrawn WW d) os).cell? ⟨w1.heap.size, 6, none⟩ = some (.bool false) := cell_regrown (hT 6)
  have t7 : ∀ d os, (Sort.grow (redrawn WW d) os).cell? ⟨w1.heap.size, 7, none⟩ = some (.int .i64 0) := cell_regrown (hT 7)
  have t8 : ∀ d os, (Sort.grow (redrawn WW d) os).cell? ⟨w1.heap.size, 8, none⟩ = some (.int .i64 0) := cell_regrown (hT 8)
  clear hB hT c0 b0 b1
  refine wp_region_grown_tail 14 (by kernel_rfl) (by kernel_rfl) ?_
  simp only [List.take_succ_cons, List.take_zero, List.drop_succ_cons, List.drop_zero]
  repeat (quiet_step ((first | (go_at_call 71; exact cN _ (by assumption) _ _ _) | (go_at_call 116; exact cQ _ _ _))))
  refine wpQuiet_nil ?_
  intro _ hw'
  obtain ⟨⟨dq, osq⟩, hw''⟩ := hw'
  subst hw''
  have kq : Keeps No WW (Sort.grow (redrawn WW dq) osq) := keeps_regrown WW dq osq
  clear x0 t0 x1 t1 x2 t2 x3 t3 x4 t4 x5 t5 x6 t6 x7 t7 x8 t8
  generalize Sort.grow (redrawn WW dq) osq = W9 at kq ⊢
  have y1 := kq.heap d1 id
  have g1 := Lib.cell_of_heap y1
  have f1 := Lib.frozen_of_heap y1
  have K9 := KW.trans kq
  go_wp2
  have v9 := heap_fill9 y1 (.int .i64 2) (.int .i64 R) (.int .i64 N) (.int .i64 p) (.int .i64 0) (.string ⟨tx.toArray⟩) (.bool false) (.int .i64 0) (.int .i64 0)
  refine bodyPost_ret (res_rcmd v9 rfl rfl) rfl ?_
  refine RCmdPost.mk (u := ByteArray.mk #[116, 121, 112, 101, 32] ++ ByteArray.mk (List.toArray (sh)) ++ ByteArray.mk #[32] ++ ByteArray.mk (List.toArray (Lib.itoa p)) ++ ByteArray.mk #[32] ++ ByteArray.mk (List.toArray (Off.quoted tx))) (d := ⟨2, ⟨R, N⟩, p, 0, tx, false, ⟨0, 0⟩⟩) rfl ?_ rfl (Keeps.fill9 K9 (Nat.le_add_right _ 1) _ _ _ _ _ _ _ _ _)
  rw [bytes_app, bytes_app, bytes_app, bytes_app, bytes_app]
  refine congrArg ByteArray.mk ?_
  apply Array.ext'
  show _ = [116, 121, 112, 101] ++ 32 :: (Off.showId ⟨R, N⟩ ++ 32 :: (Lib.itoa p ++ 32 :: (Off.quoted tx)))
  rw [Hsh.out]
  simp

set_option maxRecDepth 100000 in
set_option maxHeartbeats 4000000 in
theorem rcmd_place_true (R N p n : Int) (tx : List UInt8) (R2 N2 : Int) (w : World) (hE : Env w) (hF : CmdFits ⟨14, ⟨R, N⟩, p, n, tx, true, ⟨R2, N2⟩⟩) :
    Calls Tryz.prog 73 #[cmdV ⟨14, ⟨R, N⟩, p, n, tx, true, ⟨R2, N2⟩⟩] w (RCmdPost (Off.joinW (Off.cmdWords ⟨14, ⟨R, N⟩, p, n, tx, true, ⟨R2, N2⟩⟩)) (Off.cmdTold ⟨14, ⟨R, N⟩, p, n, tx, true, ⟨R2, N2⟩⟩) w) := by
  have hz := hE.size
  obtain ⟨hI1, hI2, hJ1, hJ2, hp, hn, ht⟩ := hF
  simp only at hI1 hI2 hJ1 hJ2 hp hn ht
  have cS := fun w1 h => refShow_any R N w1 h
  have lS := showId_len ⟨R, N⟩ hI1 hI2
  generalize hsh : Off.showId ⟨R, N⟩ = sh at cS lS
  have Hsh := Lib.hid hsh
  clear hsh
  obtain ⟨a0, a1⟩ := two_boxes w (.cells #[.int .i64 14, .int .i64 R, .int .i64 N, .int .i64 p, .int .i64 n, .string ⟨tx.toArray⟩, .bool true, .int .i64 R2, .int .i64 N2] 77) (.cells #[.int .i64 0, .int .i64 0, .int .i64 0, .int .i64 0, .int .i64 0, .string ⟨#[]⟩, .bool false, .int .i64 0, .int .i64 0] 77)
  have kw : Keeps No w ((w.alloc (.cells #[.int .i64 14, .int .i64 R, .int .i64 N, .int .i64 p, .int .i64 n, .string ⟨tx.toArray⟩, .bool true, .int .i64 R2, .int .i64 N2] 77)).alloc (.cells #[.int .i64 0, .int .i64 0, .int .i64 0, .int .i64 0, .int .i64 0, .string ⟨#[]⟩, .bool false, .int .i64 0, .int .i64 0] 77)) := ((Keeps.refl _ _).alloc _).alloc _
  have hEw := hE.no kw
  have zW : ((w.alloc (.cells #[.int .i64 14, .int .i64 R, .int .i64 N, .int .i64 p, .int .i64 n, .string ⟨tx.toArray⟩, .bool true, .int .i64 R2, .int .i64 N2] 77)).alloc (.cells #[.int .i64 0, .int .i64 0, .int .i64 0, .int .i64 0, .int .i64 0, .string ⟨#[]⟩, .bool false, .int .i64 0, .int .i64 0] 77)).heap.size = w.heap.size + 2 := by simp
  go_enter Tryz.func73, Tryz.ntmps73
  go_wp2_with fail
  generalize (w.alloc (.cells #[.int .i64 14, .int .i64 R, .int .i64 N, .int .i64 p, .int .i64 n, .string ⟨tx.toArray⟩, .bool true, .int .i64 R2, .int .i64 N2] 77)).alloc (.cells #[.int .i64 0, .int .i64 0, .int .i64 0, .int .i64 0, .int .i64 0, .string ⟨#[]⟩, .bool false, .int .i64 0, .int .i64 0] 77) = W0 at a0 a1 kw hEw zW ⊢
  refine (cS _ hEw).mono ?_
  rintro e w1 ⟨rfl, k1⟩
  have b0 := k1.heap a0 id
  have b1 := k1.heap a1 id
  have K1 := kw.trans k1
  have z1 : w.heap.size + 2 ≤ w1.heap.size := by have := k1.size; omega
  have hE1 := hE.no K1
  have c0 := Lib.cell_of_heap b0
  have ne1 : ¬ w.heap.size = w1.heap.size := by omega
  have ne2 : ¬ w.heap.size + 1 = w1.heap.size := by omega
  have lt1 : w.heap.size < w1.heap.size := by omega
  have lt2 : w.heap.size + 1 < w1.heap.size := by omega
  clear a0 a1 kw hEw zW cS k1
  have cS2 : ∀ W, Env W → ∀ d os, Calls Tryz.prog 115 #[.agg #[.int .i64 R2, .int .i64 N2]] (Sort.grow (redrawn W d) os) fun e w'' => e = .returned (.string ⟨(Off.showId ⟨R2, N2⟩).toArray⟩) ∧ ∃ q : Regrown, w'' = Sort.grow (redrawn W q.d) q.os :=
    fun W h d os => calls_regrown (refShow_any R2 N2 _ (h.regrown d os))
  have lS2 := showId_len ⟨R2, N2⟩ hJ1 hJ2
  have cQ : ∀ W d os, Calls Tryz.prog 116 #[.string ⟨tx.toArray⟩] (Sort.grow (redrawn W d) os) fun e w'' => e = .returned (.string ⟨(Off.quoted tx).toArray⟩) ∧ ∃ q : Regrown, w'' = Sort.grow (redrawn W q.d) q.os :=
    fun W d os => calls_regrown (refQuoted_any tx _ ht)
  have lQ := quoted_len tx
  have m0 : ¬ 9223372036854775807 < 6 + sh.length := by omega
  have m1 : ¬ 9223372036854775807 < 6 + sh.length + 1 := by omega
  have m2 : ¬ 9223372036854775807 < 6 + sh.length + 1 + (Off.showId ⟨R2, N2⟩).length := by omega
  have m3 : ¬ 9223372036854775807 < 6 + sh.length + 1 + (Off.showId ⟨R2, N2⟩).length + 1 := by omega
  have m4 : ¬ 9223372036854775807 < 6 + sh.length + 1 + (Off.showId ⟨R2, N2⟩).length + 1 + (Off.quoted tx).length := by omega
  go_wp2
  have d0 : (w1.alloc (.cells #[.int .i64 14, .int .i64 R, .int .i64 N, .int .i64 0, .int .i64 0, .string ⟨tx.toArray⟩, .bool false, .int .i64 R2, .int .i64 N2] 77)).heap[w.heap.size]? = _ := heap_alloc_keep b0 _
  have d1 : (w1.alloc (.cells #[.int .i64 14, .int .i64 R, .int .i64 N, .int .i64 0, .int .i64 0, .string ⟨tx.toArray⟩, .bool false, .int .i64 R2, .int .i64 N2] 77)).heap[w.heap.size + 1]? = _ := heap_alloc_keep b1 _
  have d2 : (w1.alloc (.cells #[.int .i64 14, .int .i64 R, .int .i64 N, .int .i64 0, .int .i64 0, .string ⟨tx.toArray⟩, .bool false, .int .i64 R2, .int .i64 N2] 77)).heap[w1.heap.size]? = _ := heap_alloc_new w1 _
  have KW : Keeps No w (w1.alloc (.cells #[.int .i64 14, .int .i64 R, .int .i64 N, .int .i64 0, .int .i64 0, .string ⟨tx.toArray⟩, .bool false, .int .i64 R2, .int .i64 N2] 77)) := K1.alloc _
  have hEW := hE1.alloc (.cells #[.int .i64 14, .int .i64 R, .int .i64 N, .int .i64 0, .int .i64 0, .string ⟨tx.toArray⟩, .bool false, .int .i64 R2, .int .i64 N2] 77)
  generalize w1.alloc (.cells #[.int .i64 14, .int .i64 R, .int .i64 N, .int .i64 0, .int .i64 0, .string ⟨tx.toArray⟩, .bool false, .int .i64 R2, .int .i64 N2] 77) = WW at d0 d1 d2 KW hEW ⊢
  have hB := Lib.cell_of_heap d0
  have hT := Lib.cell_of_heap d2
  have x0 : ∀ d os, (Sort.grow (redrawn WW d) os).cell? ⟨w.heap.size, 0, none⟩ = some (.int .i64 14) := cell_regrown (hB 0)
  have x1 : ∀ d os, (Sort.grow (redrawn WW d) os).cell? ⟨w.heap.size, 1, none⟩ = some (.int .i64 R) := cell_regrown (hB 1)
  have x2 : ∀ d os, (Sort.grow (redrawn WW d) os).cell? ⟨w.heap.size, 2, none⟩ = some (.int .i64 N) := cell_regrown (hB 2)
  have x3 : ∀ d os, (Sort.grow (redrawn WW d) os).cell? ⟨w.heap.size, 3, none⟩ = some (.int .i64 p) := cell_regrown (hB 3)
  have x4 : ∀ d os, (Sort.grow (redrawn WW d) os).cell? ⟨w.heap.size, 4, none⟩ = some (.int .i64 n) := cell_regrown (hB 4)
  have x5 : ∀ d os, (Sort.grow (redrawn WW d) os).cell? ⟨w.heap.size, 5, none⟩ = some (.string ⟨tx.toArray⟩) := cell_regrown (hB 5)
  have x6 : ∀ d os, (Sort.grow (redrawn WW d) os).cell? ⟨w.heap.size, 6, none⟩ = some (.bool true) := cell_regrown (hB 6)
  have x7 : ∀ d os, (Sort.grow (redrawn WW d) os).cell? ⟨w.heap.size, 7, none⟩ = some (.int .i64 R2) := cell_regrown (hB 7)
  have x8 : ∀ d os, (Sort.grow (redrawn WW d) os).cell? ⟨w.heap.size, 8, none⟩ = some (.int .i64 N2) := cell_regrown (hB 8)
  have t0 : ∀ d os, (Sort.grow (redrawn WW d) os).cell? ⟨w1.heap.size, 0, none⟩ = some (.int .i64 14) := cell_regrown (hT 0)
  have t1 : ∀ d os, (Sort.grow (redrawn WW d) os).cell? ⟨w1.heap.size, 1, none⟩ = some (.int .i64 R) := cell_regrown (hT 1)
  have t2 : ∀ d os, (Sort.grow (redrawn WW d) os).cell? ⟨w1.heap.size, 2, none⟩ = some (.int .i64 N) := cell_regrown (hT 2)
  have t3 : ∀ d os, (Sort.grow (redrawn WW d) os).cell? ⟨w1.heap.size, 3, none⟩ = some (.int .i64 0) := cell_regrown (hT 3)
  have t4 : ∀ d os, (Sort.grow (redrawn WW d) os).cell? ⟨w1.heap.size, 4, none⟩ = some (.int .i64 0) := cell_regrown (hT 4)
  have t5 : ∀ d os, (Sort.grow (redrawn WW d) os).cell? ⟨w1.heap.size, 5, none⟩ = some (.string ⟨tx.toArray⟩) := cell_regrown (hT 5)
  have t6 : ∀ d os, (Sort.grow (redrawn WW d) os).cell? ⟨w1.heap.size, 6, none⟩ = some (.bool false) := cell_regrown (hT 6)
  have t7 : ∀ d os, (Sort.grow (redrawn WW d) os).cell? ⟨w1.heap.size, 7, none⟩ = some (.int .i64 R2) := cell_regrown (hT 7)
  have t8 : ∀ d os, (Sort.grow (redrawn WW d) os).cell? ⟨w1.heap.size, 8, none⟩ = some (.int .i64 N2) := cell_regrown (hT 8)
  clear hB hT c0 b0 b1
  refine wp_region_grown_tail 14 (by kernel_rfl) (by kernel_rfl) ?_
  simp only [List.take_succ_cons, List.take_zero, List.drop_succ_cons, List.drop_zero]
  repeat (quiet_step ((first | (go_at_call 115; exact cS2 _ hEW _ _) | (go_at_call 116; exact cQ _ _ _))))
  refine wpQuiet_nil ?_
  intro _ hw'
  obtain ⟨⟨dq, osq⟩, hw''⟩ := hw'
  subst hw''
  have kq : Keeps No WW (Sort.grow (redrawn WW dq) osq) := keeps_regrown WW dq osq
  clear x0 t0 x1 t1 x2 t2 x3 t3 x4 t4 x5 t5 x6 t6 x7 t7 x8 t8
  generalize Sort.grow (redrawn WW dq) osq = W9 at kq ⊢
  have y1 := kq.heap d1 id
  have g1 := Lib.cell_of_heap y1
  have f1 := Lib.frozen_of_heap y1
  have K9 := KW.trans kq
  go_wp2
  have v9 := heap_fill9 y1 (.int .i64 14) (.int .i64 R) (.int .i64 N) (.int .i64 0) (.int .i64 0) (.string ⟨tx.toArray⟩) (.bool false) (.int .i64 R2) (.int .i64 N2)
  refine bodyPost_ret (res_rcmd v9 rfl rfl) rfl ?_
  refine RCmdPost.mk (u := ByteArray.mk #[112, 108, 97, 99, 101, 32] ++ ByteArray.mk (List.toArray (sh)) ++ ByteArray.mk #[32] ++ ByteArray.mk (List.toArray (Off.showId ⟨R2, N2⟩)) ++ ByteArray.mk #[32] ++ ByteArray.mk (List.toArray (Off.quoted tx))) (d := ⟨14, ⟨R, N⟩, 0, 0, tx, false, ⟨R2, N2⟩⟩) rfl ?_ rfl (Keeps.fill9 K9 (Nat.le_add_right _ 1) _ _ _ _ _ _ _ _ _)
  rw [bytes_app, bytes_app, bytes_app, bytes_app, bytes_app]
  refine congrArg ByteArray.mk ?_
  apply Array.ext'
  show _ = [112, 108, 97, 99, 101] ++ 32 :: (Off.showId ⟨R, N⟩ ++ 32 :: (Off.showId ⟨R2, N2⟩ ++ 32 :: (Off.quoted tx)))
  rw [Hsh.out]
  simp

set_option maxRecDepth 100000 in
set_option maxHeartbeats 4000000 in
theorem rcmd_new_true (R N p n : Int) (tx : List UInt8) (R2 N2 : Int) (w : World) (hE : Env w) (hF : CmdFits ⟨1, ⟨R, N⟩, p, n, tx, true, ⟨R2, N2⟩⟩) :
    Calls Tryz.prog 73 #[cmdV ⟨1, ⟨R, N⟩, p, n, tx, true, ⟨R2, N2⟩⟩] w (RCmdPost (Off.joinW (Off.cmdWords ⟨1, ⟨R, N⟩, p, n, tx, true, ⟨R2, N2⟩⟩)) (Off.cmdTold ⟨1, ⟨R, N⟩, p, n, tx, true, ⟨R2, N2⟩⟩) w) := by
  have hz := hE.size
  obtain ⟨hI1, hI2, hJ1, hJ2, hp, hn, ht⟩ := hF
  simp only at hI1 hI2 hJ1 hJ2 hp hn ht
  have cS := fun w1 h => refShow_any R N w1 h
  have lS := showId_len ⟨R, N⟩ hI1 hI2
  generalize hsh : Off.showId ⟨R, N⟩ = sh at cS lS
  have Hsh := Lib.hid hsh
  clear hsh
  obtain ⟨a0, a1⟩ := two_boxes w (.cells #[.int .i64 1, .int .i64 R, .int .i64 N, .int .i64 p, .int .i64 n, .string ⟨tx.toArray⟩, .bool true, .int .i64 R2, .int .i64 N2] 77) (.cells #[.int .i64 0, .int .i64 0, .int .i64 0, .int .i64 0, .int .i64 0, .string ⟨#[]⟩, .bool false, .int .i64 0, .int .i64 0] 77)
  have kw : Keeps No w ((w.alloc (.cells #[.int .i64 1, .int .i64 R, .int .i64 N, .int .i64 p, .int .i64 n, .string ⟨tx.toArray⟩, .bool true, .int .i64 R2, .int .i64 N2] 77)).alloc (.cells #[.int .i64 0, .int .i64 0, .int .i64 0, .int .i64 0, .int .i64 0, .string ⟨#[]⟩, .bool false, .int .i64 0, .int .i64 0] 77)) := ((Keeps.refl _ _).alloc _).alloc _
  have hEw := hE.no kw
  have zW : ((w.alloc (.cells #[.int .i64 1, .int .i64 R, .int .i64 N, .int .i64 p, .int .i64 n, .string ⟨tx.toArray⟩, .bool true, .int .i64 R2, .int .i64 N2] 77)).alloc (.cells #[.int .i64 0, .int .i64 0, .int .i64 0, .int .i64 0, .int .i64 0, .string ⟨#[]⟩, .bool false, .int .i64 0, .int .i64 0] 77)).heap.size = w.heap.size + 2 := by simp
  go_enter Tryz.func73, Tryz.ntmps73
  go_wp2_with fail
  generalize (w.alloc (.cells #[.int .i64 1, .int .i64 R, .int .i64 N, .int .i64 p, .int .i64 n, .string ⟨tx.toArray⟩, .bool true, .int .i64 R2, .int .i64 N2] 77)).alloc (.cells #[.int .i64 0, .int .i64 0, .int .i64 0, .int .i64 0, .int .i64 0, .string ⟨#[]⟩, .bool false, .int .i64 0, .int .i64 0] 77) = W0 at a0 a1 kw hEw zW ⊢
  refine (cS _ hEw).mono ?_
  rintro e w1 ⟨rfl, k1⟩
  have b0 := k1.heap a0 id
  have b1 := k1.heap a1 id
  have K1 := kw.trans k1
  have z1 : w.heap.size + 2 ≤ w1.heap.size := by have := k1.size; omega
  have hE1 := hE.no K1
  have c0 := Lib.cell_of_heap b0
  have ne1 : ¬ w.heap.size = w1.heap.size := by omega
  have ne2 : ¬ w.heap.size + 1 = w1.heap.size := by omega
  have lt1 : w.heap.size < w1.heap.size := by omega
  have lt2 : w.heap.size + 1 < w1.heap.size := by omega
  clear a0 a1 kw hEw zW cS k1
  have cQ : ∀ W d os, Calls Tryz.prog 116 #[.string ⟨tx.toArray⟩] (Sort.grow (redrawn W d) os) fun e w'' => e = .returned (.string ⟨(Off.quoted tx).toArray⟩) ∧ ∃ q : Regrown, w'' = Sort.grow (redrawn W q.d) q.os :=
    fun W d os => calls_regrown (refQuoted_any tx _ ht)
  have lQ := quoted_len tx
  have m0 : ¬ 9223372036854775807 < 7 + sh.length := by omega
  have m1 : ¬ 9223372036854775807 < 7 + sh.length + 1 := by omega
  have m2 : ¬ 9223372036854775807 < 7 + sh.length + 1 + (Off.quoted tx).length := by omega
  go_wp2
  have d0 : (w1.alloc (.cells #[.int .i64 1, .int .i64 R, .int .i64 N, .int .i64 0, .int .i64 0, .string ⟨tx.toArray⟩, .bool true, .int .i64 0, .int .i64 0] 77)).heap[w.heap.size]? = _ := heap_alloc_keep b0 _
  have d1 : (w1.alloc (.cells #[.int .i64 1, .int .i64 R, .int .i64 N, .int .i64 0, .int .i64 0, .string ⟨tx.toArray⟩, .bool true, .int .i64 0, .int .i64 0] 77)).heap[w.heap.size + 1]? = _ := heap_alloc_keep b1 _
  have d2 : (w1.alloc (.cells #[.int .i64 1, .int .i64 R, .int .i64 N, .int .i64 0, .int .i64 0, .string ⟨tx.toArray⟩, .bool true, .int .i64 0, .int .i64 0] 77)).heap[w1.heap.size]? = _ := heap_alloc_new w1 _
  have KW : Keeps No w (w1.alloc (.cells #[.int .i64 1, .int .i64 R, .int .i64 N, .int .i64 0, .int .i64 0, .string ⟨tx.toArray⟩, .bool true, .int .i64 0, .int .i64 0] 77)) := K1.alloc _
  have hEW := hE1.alloc (.cells #[.int .i64 1, .int .i64 R, .int .i64 N, .int .i64 0, .int .i64 0, .string ⟨tx.toArray⟩, .bool true, .int .i64 0, .int .i64 0] 77)
  generalize w1.alloc (.cells #[.int .i64 1, .int .i64 R, .int .i64 N, .int .i64 0, .int .i64 0, .string ⟨tx.toArray⟩, .bool true, .int .i64 0, .int .i64 0] 77) = WW at d0 d1 d2 KW hEW ⊢
  have hB := Lib.cell_of_heap d0
  have hT := Lib.cell_of_heap d2
  have x0 : ∀ d os, (Sort.grow (redrawn WW d) os).cell? ⟨w.heap.size, 0, none⟩ = some (.int .i64 1) := cell_regrown (hB 0)
  have x1 : ∀ d os, (Sort.grow (redrawn WW d) os).cell? ⟨w.heap.size, 1, none⟩ = some (.int .i64 R) := cell_regrown (hB 1)
  have x2 : ∀ d os, (Sort.grow (redrawn WW d) os).cell? ⟨w.heap.size, 2, none⟩ = some (.int .i64 N) := cell_regrown (hB 2)
  have x3 : ∀ d os, (Sort.grow (redrawn WW d) os).cell? ⟨w.heap.size, 3, none⟩ = some (.int .i64 p) := cell_regrown (hB 3)
  have x4 : ∀ d os, (Sort.grow (redrawn WW d) os).cell? ⟨w.heap.size, 4, none⟩ = some (.int .i64 n) := cell_regrown (hB 4)
  have x5 : ∀ d os, (Sort.grow (redrawn WW d) os).cell? ⟨w.heap.size, 5, none⟩ = some (.string ⟨tx.toArray⟩) := cell_regrown (hB 5)
  have x6 : ∀ d os, (Sort.grow (redrawn WW d) os).cell? ⟨w.heap.size, 6, none⟩ = some (.bool true) := cell_regrown (hB 6)
  have x7 : ∀ d os, (Sort.grow (redrawn WW d) os).cell? ⟨w.heap.size, 7, none⟩ = some (.int .i64 R2) := cell_regrown (hB 7)
  have x8 : ∀ d os, (Sort.grow (redrawn WW d) os).cell? ⟨w.heap.size, 8, none⟩ = some (.int .i64 N2) := cell_regrown (hB 8)
  have t0 : ∀ d os, (Sort.grow (redrawn WW d) os).cell? ⟨w1.heap.size, 0, none⟩ = some (.int .i64 1) := cell_regrown (hT 0)
  have t1 : ∀ d os, (Sort.grow (redrawn WW d) os).cell? ⟨w1.heap.size, 1, none⟩ = some (.int .i64 R) := cell_regrown (hT 1)
  have t2 : ∀ d os, (Sort.grow (redrawn WW d) os).cell? ⟨w1.heap.size, 2, none⟩ = some (.int .i64 N) := cell_regrown (hT 2)
  have t3 : ∀ d os, (Sort.grow (redrawn WW d) os).cell? ⟨w1.heap.size, 3, none⟩ = some (.int .i64 0) := cell_regrown (hT 3)
  have t4 : ∀ d os, (Sort.grow (redrawn WW d) os).cell? ⟨w1.heap.size, 4, none⟩ = some (.int .i64 0) := cell_regrown (hT 4)
  have t5 : ∀ d os, (Sort.grow (redrawn WW d) os).cell? ⟨w1.heap.size, 5, none⟩ = some (.string ⟨tx.toArray⟩) := cell_regrown (hT 5)
  have t6 : ∀ d os, (Sort.grow (redrawn WW d) os).cell? ⟨w1.heap.size, 6, none⟩ = some (.bool true) := cell_regrown (hT 6)
  have t7 : ∀ d os, (Sort.grow (redrawn WW d) os).cell? ⟨w1.heap.size, 7, none⟩ = some (.int .i64 0) := cell_regrown (hT 7)
  have t8 : ∀ d os, (Sort.grow (redrawn WW d) os).cell? ⟨w1.heap.size, 8, none⟩ = some (.int .i64 0) := cell_regrown (hT 8)
  clear hB hT c0 b0 b1
  refine wp_region_grown_tail 11 (by kernel_rfl) (by kernel_rfl) ?_
  simp only [List.take_succ_cons, List.take_zero, List.drop_succ_cons, List.drop_zero]
  repeat (quiet_step (exact cQ _ _ _))
  refine wpQuiet_nil ?_
  intro _ hw'
  obtain ⟨⟨dq, osq⟩, hw''⟩ := hw'
  subst hw''
  have kq : Keeps No WW (Sort.grow (redrawn WW dq) osq) := keeps_regrown WW dq osq
  clear x0 t0 x1 t1 x2 t2 x3 t3 x4 t4 x5 t5 x6 t6 x7 t7 x8 t8
  generalize Sort.grow (redrawn WW dq) osq = W9 at kq ⊢
  have y1 := kq.heap d1 id
  have g1 := Lib.cell_of_heap y1
  have f1 := Lib.frozen_of_heap y1
  have K9 := KW.trans kq
  go_wp2
  have v9 := heap_fill9 y1 (.int .i64 1) (.int .i64 R) (.int .i64 N) (.int .i64 0) (.int .i64 0) (.string ⟨tx.toArray⟩) (.bool true) (.int .i64 0) (.int .i64 0)
  refine bodyPost_ret (res_rcmd v9 rfl rfl) rfl ?_
  refine RCmdPost.mk (u := ByteArray.mk #[110, 101, 119, 32, 105, 110, 32] ++ ByteArray.mk (List.toArray (sh)) ++ ByteArray.mk #[32] ++ ByteArray.mk (List.toArray (Off.quoted tx))) (d := ⟨1, ⟨R, N⟩, 0, 0, tx, true, ⟨0, 0⟩⟩) rfl ?_ rfl (Keeps.fill9 K9 (Nat.le_add_right _ 1) _ _ _ _ _ _ _ _ _)
  rw [bytes_app, bytes_app, bytes_app]
  refine congrArg ByteArray.mk ?_
  apply Array.ext'
  show _ = [110, 101, 119] ++ 32 :: ([105, 110] ++ 32 :: (Off.showId ⟨R, N⟩ ++ 32 :: (Off.quoted tx)))
  rw [Hsh.out]
  simp

set_option maxRecDepth 100000 in
set_option maxHeartbeats 4000000 in
theorem rcmd_move_true (R N p n : Int) (tx : List UInt8) (R2 N2 : Int) (w : World) (hE : Env w) (hF : CmdFits ⟨13, ⟨R, N⟩, p, n, tx, true, ⟨R2, N2⟩⟩) :
    Calls Tryz.prog 73 #[cmdV ⟨13, ⟨R, N⟩, p, n, tx, true, ⟨R2, N2⟩⟩] w (RCmdPost (Off.joinW (Off.cmdWords ⟨13, ⟨R, N⟩, p, n, tx, true, ⟨R2, N2⟩⟩)) (Off.cmdTold ⟨13, ⟨R, N⟩, p, n, tx, true, ⟨R2, N2⟩⟩) w) := by
  have hz := hE.size
  obtain ⟨hI1, hI2, hJ1, hJ2, hp, hn, ht⟩ := hF
  simp only at hI1 hI2 hJ1 hJ2 hp hn ht
  have cS := fun w1 h => refShow_any R N w1 h
  have lS := showId_len ⟨R, N⟩ hI1 hI2
  generalize hsh : Off.showId ⟨R, N⟩ = sh at cS lS
  have Hsh := Lib.hid hsh
  clear hsh
  obtain ⟨a0, a1⟩ := two_boxes w (.cells #[.int .i64 13, .int .i64 R, .int .i64 N, .int .i64 p, .int .i64 n, .string ⟨tx.toArray⟩, .bool true, .int .i64 R2, .int .i64 N2] 77) (.cells #[.int .i64 0, .int .i64 0, .int .i64 0, .int .i64 0, .int .i64 0, .string ⟨#[]⟩, .bool false, .int .i64 0, .int .i64 0] 77)
  have kw : Keeps No w ((w.alloc (.cells #[.int .i64 13, .int .i64 R, .int .i64 N, .int .i64 p, .int .i64 n, .string ⟨tx.toArray⟩, .bool true, .int .i64 R2, .int .i64 N2] 77)).alloc (.cells #[.int .i64 0, .int .i64 0, .int .i64 0, .int .i64 0, .int .i64 0, .string ⟨#[]⟩, .bool false, .int .i64 0, .int .i64 0] 77)) := ((Keeps.refl _ _).alloc _).alloc _
  have hEw := hE.no kw
  have zW : ((w.alloc (.cells #[.int .i64 13, .int .i64 R, .int .i64 N, .int .i64 p, .int .i64 n, .string ⟨tx.toArray⟩, .bool true, .int .i64 R2, .int .i64 N2] 77)).alloc (.cells #[.int .i64 0, .int .i64 0, .int .i64 0, .int .i64 0, .int .i64 0, .string ⟨#[]⟩, .bool false, .int .i64 0, .int .i64 0] 77)).heap.size = w.heap.size + 2 := by simp
  go_enter Tryz.func73, Tryz.ntmps73
  go_wp2_with fail
  generalize (w.alloc (.cells #[.int .i64 13, .int .i64 R, .int .i64 N, .int .i64 p, .int .i64 n, .string ⟨tx.toArray⟩, .bool true, .int .i64 R2, .int .i64 N2] 77)).alloc (.cells #[.int .i64 0, .int .i64 0, .int .i64 0, .int .i64 0, .int .i64 0, .string ⟨#[]⟩, .bool false, .int .i64 0, .int .i64 0] 77) = W0 at a0 a1 kw hEw zW ⊢
  refine (cS _ hEw).mono ?_
  rintro e w1 ⟨rfl, k1⟩
  have b0 := k1.heap a0 id
  have b1 := k1.heap a1 id
  have K1 := kw.trans k1
  have z1 : w.heap.size + 2 ≤ w1.heap.size := by have := k1.size; omega
  have hE1 := hE.no K1
  have c0 := Lib.cell_of_heap b0
  have ne1 : ¬ w.heap.size = w1.heap.size := by omega
  have ne2 : ¬ w.heap.size + 1 = w1.heap.size := by omega
  have lt1 : w.heap.size < w1.heap.size := by omega
  have lt2 : w.heap.size + 1 < w1.heap.size := by omega
  clear a0 a1 kw hEw zW cS k1
  have cS2 : ∀ W, Env W → ∀ d os, Calls Tryz.prog 115 #[.agg #[.int .i64 R2, .int .i64 N2]] (Sort.grow (redrawn W d) os) fun e w'' => e = .returned (.string ⟨(Off.showId ⟨R2, N2⟩).toArray⟩) ∧ ∃ q : Regrown, w'' = Sort.grow (redrawn W q.d) q.os :=
    fun W h d os => calls_regrown (refShow_any R2 N2 _ (h.regrown d os))
  have lS2 := showId_len ⟨R2, N2⟩ hJ1 hJ2
  have m0 : ¬ 9223372036854775807 < 8 + sh.length := by omega
  have m1 : ¬ 9223372036854775807 < 8 + sh.length + 1 := by omega
  have m2 : ¬ 9223372036854775807 < 8 + sh.length + 1 + (Off.showId ⟨R2, N2⟩).length := by omega
  go_wp2
  have d0 : (w1.alloc (.cells #[.int .i64 13, .int .i64 R, .int .i64 N, .int .i64 0, .int .i64 0, .string ⟨#[]⟩, .bool true, .int .i64 R2, .int .i64 N2] 77)).heap[w.heap.size]? = _ := heap_alloc_keep b0 _
  have d1 : (w1.alloc (.cells #[.int .i64 13, .int .i64 R, .int .i64 N, .int .i64 0, .int .i64 0, .string ⟨#[]⟩, .bool true, .int .i64 R2, .int .i64 N2] 77)).heap[w.heap.size + 1]? = _ := heap_alloc_keep b1 _
  have d2 : (w1.alloc (.cells #[.int .i64 13, .int .i64 R, .int .i64 N, .int .i64 0, .int .i64 0, .string ⟨#[]⟩, .bool true, .int .i64 R2, .int .i64 N2] 77)).heap[w1.heap.size]? = _ := heap_alloc_new w1 _
  have KW : Keeps No w (w1.alloc (.cells #[.int .i64 13, .int .i64 R, .int .i64 N, .int .i64 0, .int .i64 0, .string ⟨#[]⟩, .bool true, .int .i64 R2, .int .i64 N2] 77)) := K1.alloc _
  have hEW := hE1.alloc (.cells #[.int .i64 13, .int .i64 R, .int .i64 N, .int .i64 0, .int .i64 0, .string ⟨#[]⟩, .bool true, .int .i64 R2, .int .i64 N2] 77)
  generalize w1.alloc (.cells #[.int .i64 13, .int .i64 R, .int .i64 N, .int .i64 0, .int .i64 0, .string ⟨#[]⟩, .bool true, .int .i64 R2, .int .i64 N2] 77) = WW at d0 d1 d2 KW hEW ⊢
  have hB := Lib.cell_of_heap d0
  have hT := Lib.cell_of_heap d2
  have x0 : ∀ d os, (Sort.grow (redrawn WW d) os).cell? ⟨w.heap.size, 0, none⟩ = some (.int .i64 13) := cell_regrown (hB 0)
  have x1 : ∀ d os, (Sort.grow (redrawn WW d) os).cell? ⟨w.heap.size, 1, none⟩ = some (.int .i64 R) := cell_regrown (hB 1)
  have x2 : ∀ d os, (Sort.grow (redrawn WW d) os).cell? ⟨w.heap.size, 2, none⟩ = some (.int .i64 N) := cell_regrown (hB 2)
  have x3 : ∀ d os, (Sort.grow (redrawn WW d) os).cell? ⟨w.heap.size, 3, none⟩ = some (.int .i64 p) := cell_regrown (hB 3)
  have x4 : ∀ d os, (Sort.grow (redrawn WW d) os).cell? ⟨w.heap.size, 4, none⟩ = some (.int .i64 n) := cell_regrown (hB 4)
  have x5 : ∀ d os, (Sort.grow (redrawn WW d) os).cell? ⟨w.heap.size, 5, none⟩ = some (.string ⟨tx.toArray⟩) := cell_regrown (hB 5)
  have x6 : ∀ d os, (Sort.grow (redrawn WW d) os).cell? ⟨w.heap.size, 6, none⟩ = some (.bool true) := cell_regrown (hB 6)
  have x7 : ∀ d os, (Sort.grow (redrawn WW d) os).cell? ⟨w.heap.size, 7, none⟩ = some (.int .i64 R2) := cell_regrown (hB 7)
  have x8 : ∀ d os, (Sort.grow (redrawn WW d) os).cell? ⟨w.heap.size, 8, none⟩ = some (.int .i64 N2) := cell_regrown (hB 8)
  have t0 : ∀ d os, (Sort.grow (redrawn WW d) os).cell? ⟨w1.heap.size, 0, none⟩ = some (.int .i64 13) := cell_regrown (hT 0)
  have t1 : ∀ d os, (Sort.grow (redrawn WW d) os).cell? ⟨w1.heap.size, 1, none⟩ = some (.int .i64 R) := cell_regrown (hT 1)
  have t2 : ∀ d os, (Sort.grow (redrawn WW d) os).cell? ⟨w1.heap.size, 2, none⟩ = some (.int .i64 N) := cell_regrown (hT 2)
  have t3 : ∀ d os, (Sort.grow (redrawn WW d) os).cell? ⟨w1.heap.size, 3, none⟩ = some (.int .i64 0) := cell_regrown (hT 3)
  have t4 : ∀ d os, (Sort.grow (redrawn WW d) os).cell? ⟨w1.heap.size, 4, none⟩ = some (.int .i64 0) := cell_regrown (hT 4)
  have t5 : ∀ d os, (Sort.grow (redrawn WW d) os).cell? ⟨w1.heap.size, 5, none⟩ = some (.string ⟨#[]⟩) := cell_regrown (hT 5)
  have t6 : ∀ d os, (Sort.grow (redrawn WW d) os).cell? ⟨w1.heap.size, 6, none⟩ = some (.bool true) := cell_regrown (hT 6)
  have t7 : ∀ d os, (Sort.grow (redrawn WW d) os).cell? ⟨w1.heap.size, 7, none⟩ = some (.int .i64 R2) := cell_regrown (hT 7)
  have t8 : ∀ d os, (Sort.grow (redrawn WW d) os).cell? ⟨w1.heap.size, 8, none⟩ = some (.int .i64 N2) := cell_regrown (hT 8)
  clear hB hT c0 b0 b1
  refine wp_region_grown_tail 11 (by kernel_rfl) (by kernel_rfl) ?_
  simp only [List.take_succ_cons, List.take_zero, List.drop_succ_cons, List.drop_zero]
  repeat (quiet_step (exact cS2 _ hEW _ _))
  refine wpQuiet_nil ?_
  intro _ hw'
  obtain ⟨⟨dq, osq⟩, hw''⟩ := hw'
  subst hw''
  have kq : Keeps No WW (Sort.grow (redrawn WW dq) osq) := keeps_regrown WW dq osq
  clear x0 t0 x1 t1 x2 t2 x3 t3 x4 t4 x5 t5 x6 t6 x7 t7 x8 t8
  generalize Sort.grow (redrawn WW dq) osq = W9 at kq ⊢
  have y1 := kq.heap d1 id
  have g1 := Lib.cell_of_heap y1
  have f1 := Lib.frozen_of_heap y1
  have K9 := KW.trans kq
  go_wp2
  have v9 := heap_fill9 y1 (.int .i64 13) (.int .i64 R) (.int .i64 N) (.int .i64 0) (.int .i64 0) (.string ⟨#[]⟩) (.bool true) (.int .i64 R2) (.int .i64 N2)
  refine bodyPost_ret (res_rcmd v9 rfl rfl) rfl ?_
  refine RCmdPost.mk (u := ByteArray.mk #[109, 111, 118, 101, 32, 105, 110, 32] ++ ByteArray.mk (List.toArray (sh)) ++ ByteArray.mk #[32] ++ ByteArray.mk (List.toArray (Off.showId ⟨R2, N2⟩))) (d := ⟨13, ⟨R, N⟩, 0, 0, [], true, ⟨R2, N2⟩⟩) rfl ?_ rfl (Keeps.fill9 K9 (Nat.le_add_right _ 1) _ _ _ _ _ _ _ _ _)
  rw [bytes_app, bytes_app, bytes_app]
  refine congrArg ByteArray.mk ?_
  apply Array.ext'
  show _ = [109, 111, 118, 101] ++ 32 :: ([105, 110] ++ 32 :: (Off.showId ⟨R, N⟩ ++ 32 :: (Off.showId ⟨R2, N2⟩)))
  rw [Hsh.out]
  simp

set_option maxRecDepth 100000 in
set_option maxHeartbeats 4000000 in
theorem rcmd_split_false (R N p n : Int) (tx : List UInt8) (R2 N2 : Int) (w : World) (hE : Env w) (hF : CmdFits ⟨4, ⟨R, N⟩, p, n, tx, false, ⟨R2, N2⟩⟩) :
    Calls Tryz.prog 73 #[cmdV ⟨4, ⟨R, N⟩, p, n, tx, false, ⟨R2, N2⟩⟩] w (RCmdPost (Off.joinW (Off.cmdWords ⟨4, ⟨R, N⟩, p, n, tx, false, ⟨R2, N2⟩⟩)) (Off.cmdTold ⟨4, ⟨R, N⟩, p, n, tx, false, ⟨R2, N2⟩⟩) w) := by
  have hz := hE.size
  obtain ⟨hI1, hI2, hJ1, hJ2, hp, hn, ht⟩ := hF
  simp only at hI1 hI2 hJ1 hJ2 hp hn ht
  have cS := fun w1 h => refShow_any R N w1 h
  have lS := showId_len ⟨R, N⟩ hI1 hI2
  generalize hsh : Off.showId ⟨R, N⟩ = sh at cS lS
  have Hsh := Lib.hid hsh
  clear hsh
  obtain ⟨a0, a1⟩ := two_boxes w (.cells #[.int .i64 4, .int .i64 R, .int .i64 N, .int .i64 p, .int .i64 n, .string ⟨tx.toArray⟩, .bool false, .int .i64 R2, .int .i64 N2] 77) (.cells #[.int .i64 0, .int .i64 0, .int .i64 0, .int .i64 0, .int .i64 0, .string ⟨#[]⟩, .bool false, .int .i64 0, .int .i64 0] 77)
  have kw : Keeps No w ((w.alloc (.cells #[.int .i64 4, .int .i64 R, .int .i64 N, .int .i64 p, .int .i64 n, .string ⟨tx.toArray⟩, .bool false, .int .i64 R2, .int .i64 N2] 77)).alloc (.cells #[.int .i64 0, .int .i64 0, .int .i64 0, .int .i64 0, .int .i64 0, .string ⟨#[]⟩, .bool false, .int .i64 0, .int .i64 0] 77)) := ((Keeps.refl _ _).alloc _).alloc _
  have hEw := hE.no kw
  have zW : ((w.alloc (.cells #[.int .i64 4, .int .i64 R, .int .i64 N, .int .i64 p, .int .i64 n, .string ⟨tx.toArray⟩, .bool false, .int .i64 R2, .int .i64 N2] 77)).alloc (.cells #[.int .i64 0, .int .i64 0, .int .i64 0, .int .i64 0, .int .i64 0, .string ⟨#[]⟩, .bool false, .int .i64 0, .int .i64 0] 77)).heap.size = w.heap.size + 2 := by simp
  go_enter Tryz.func73, Tryz.ntmps73
  go_wp2_with fail
  generalize (w.alloc (.cells #[.int .i64 4, .int .i64 R, .int .i64 N, .int .i64 p, .int .i64 n, .string ⟨tx.toArray⟩, .bool false, .int .i64 R2, .int .i64 N2] 77)).alloc (.cells #[.int .i64 0, .int .i64 0, .int .i64 0, .int .i64 0, .int .i64 0, .string ⟨#[]⟩, .bool false, .int .i64 0, .int .i64 0] 77) = W0 at a0 a1 kw hEw zW ⊢
  refine (cS _ hEw).mono ?_
  rintro e w1 ⟨rfl, k1⟩
  have b0 := k1.heap a0 id
  have b1 := k1.heap a1 id
  have K1 := kw.trans k1
  have z1 : w.heap.size + 2 ≤ w1.heap.size := by have := k1.size; omega
  have hE1 := hE.no K1
  have c0 := Lib.cell_of_heap b0
  have ne1 : ¬ w.heap.size = w1.heap.size := by omega
  have ne2 : ¬ w.heap.size + 1 = w1.heap.size := by omega
  have lt1 : w.heap.size < w1.heap.size := by omega
  have lt2 : w.heap.size + 1 < w1.heap.size := by omega
  clear a0 a1 kw hEw zW cS k1
  have cN : ∀ m : Int, Off.I64 m → ∀ W d os, Calls Tryz.prog 71 #[.int .i64 m] (Sort.grow (redrawn W d) os) fun e w'' => e = .returned (.string ⟨(Lib.itoa m).toArray⟩) ∧ ∃ q : Regrown, w'' = Sort.grow (redrawn W q.d) q.os :=
    fun m hm W d os => calls_regrown (refNumber_any m hm _)
  have lN := itoa_len p hp
  have m0 : ¬ 9223372036854775807 < 6 + sh.length := by omega
  have m1 : ¬ 9223372036854775807 < 6 + sh.length + 1 := by omega
  have m2 : ¬ 9223372036854775807 < 6 + sh.length + 1 + (Lib.itoa p).length := by omega
  go_wp2
  have d0 : (w1.alloc (.cells #[.int .i64 4, .int .i64 R, .int .i64 N, .int .i64 p, .int .i64 0, .string ⟨#[]⟩, .bool false, .int .i64 0, .int .i64 0] 77)).heap[w.heap.size]? = _ := heap_alloc_keep b0 _
  have d1 : (w1.alloc (.cells #[.int .i64 4, .int .i64 R, .int .i64 N, .int .i64 p, .int .i64 0, .string ⟨#[]⟩, .bool false, .int .i64 0, .int .i64 0] 77)).heap[w.heap.size + 1]? = _ := heap_alloc_keep b1 _
  have d2 : (w1.alloc (.cells #[.int .i64 4, .int .i64 R, .int .i64 N, .int .i64 p, .int .i64 0, .string ⟨#[]⟩, .bool false, .int .i64 0, .int .i64 0] 77)).heap[w1.heap.size]? = _ := heap_alloc_new w1 _
  have KW : Keeps No w (w1.alloc (.cells #[.int .i64 4, .int .i64 R, .int .i64 N, .int .i64 p, .int .i64 0, .string ⟨#[]⟩, .bool false, .int .i64 0, .int .i64 0] 77)) := K1.alloc _
  have hEW := hE1.alloc (.cells #[.int .i64 4, .int .i64 R, .int .i64 N, .int .i64 p, .int .i64 0, .string ⟨#[]⟩, .bool false, .int .i64 0, .int .i64 0] 77)
  generalize w1.alloc (.cells #[.int .i64 4, .int .i64 R, .int .i64 N, .int .i64 p, .int .i64 0, .string ⟨#[]⟩, .bool false, .int .i64 0, .int .i64 0] 77) = WW at d0 d1 d2 KW hEW ⊢
  have hB := Lib.cell_of_heap d0
  have hT := Lib.cell_of_heap d2
  have x0 : ∀ d os, (Sort.grow (redrawn WW d) os).cell? ⟨w.heap.size, 0, none⟩ = some (.int .i64 4) := cell_regrown (hB 0)
  have x1 : ∀ d os, (Sort.grow (redrawn WW d) os).cell? ⟨w.heap.size, 1, none⟩ = some (.int .i64 R) := cell_regrown (hB 1)
  have x2 : ∀ d os, (Sort.grow (redrawn WW d) os).cell? ⟨w.heap.size, 2, none⟩ = some (.int .i64 N) := cell_regrown (hB 2)
  have x3 : ∀ d os, (Sort.grow (redrawn WW d) os).cell? ⟨w.heap.size, 3, none⟩ = some (.int .i64 p) := cell_regrown (hB 3)
  have x4 : ∀ d os, (Sort.grow (redrawn WW d) os).cell? ⟨w.heap.size, 4, none⟩ = some (.int .i64 n) := cell_regrown (hB 4)
  have x5 : ∀ d os, (Sort.grow (redrawn WW d) os).cell? ⟨w.heap.size, 5, none⟩ = some (.string ⟨tx.toArray⟩) := cell_regrown (hB 5)
  have x6 : ∀ d os, (Sort.grow (redrawn WW d) os).cell? ⟨w.heap.size, 6, none⟩ = some (.bool false) := cell_regrown (hB 6)
  have x7 : ∀ d os, (Sort.grow (redrawn WW d) os).cell? ⟨w.heap.size, 7, none⟩ = some (.int .i64 R2) := cell_regrown (hB 7)
  have x8 : ∀ d os, (Sort.grow (redrawn WW d) os).cell? ⟨w.heap.size, 8, none⟩ = some (.int .i64 N2) := cell_regrown (hB 8)
  have t0 : ∀ d os, (Sort.grow (redrawn WW d) os).cell? ⟨w1.heap.size, 0, none⟩ = some (.int .i64 4) := cell_regrown (hT 0)
  have t1 : ∀ d os, (Sort.grow (redrawn WW d) os).cell? ⟨w1.heap.size, 1, none⟩ = some (.int .i64 R) := cell_regrown (hT 1)
  have t2 : ∀ d os, (Sort.grow (redrawn WW d) os).cell? ⟨w1.heap.size, 2, none⟩ = some (.int .i64 N) := cell_regrown (hT 2)
  have t3 : ∀ d os, (Sort.grow (redrawn WW d) os).cell? ⟨w1.heap.size, 3, none⟩ = some (.int .i64 p) := cell_regrown (hT 3)
  have t4 : ∀ d os, (Sort.grow (redrawn WW d) os).cell? ⟨w1.heap.size, 4, none⟩ = some (.int .i64 0) := cell_regrown (hT 4)
  have t5 : ∀ d os, (Sort.grow (redrawn WW d) os).cell? ⟨w1.heap.size, 5, none⟩ = some (.string ⟨#[]⟩) := cell_regrown (hT 5)
  have t6 : ∀ d os, (Sort.grow (redrawn WW d) os).cell? ⟨w1.heap.size, 6, none⟩ = some (.bool false) := cell_regrown (hT 6)
  have t7 : ∀ d os, (Sort.grow (redrawn WW d) os).cell? ⟨w1.heap.size, 7, none⟩ = some (.int .i64 0) := cell_regrown (hT 7)
  have t8 : ∀ d os, (Sort.grow (redrawn WW d) os).cell? ⟨w1.heap.size, 8, none⟩ = some (.int .i64 0) := cell_regrown (hT 8)
  clear hB hT c0 b0 b1
  refine wp_region_grown_tail 9 (by kernel_rfl) (by kernel_rfl) ?_
  simp only [List.take_succ_cons, List.take_zero, List.drop_succ_cons, List.drop_zero]
  repeat (quiet_step (exact cN _ (by assumption) _ _ _))
  refine wpQuiet_nil ?_
  intro _ hw'
  obtain ⟨⟨dq, osq⟩, hw''⟩ := hw'
  subst hw''
  have kq : Keeps No WW (Sort.grow (redrawn WW dq) osq) := keeps_regrown WW dq osq
  clear x0 t0 x1 t1 x2 t2 x3 t3 x4 t4 x5 t5 x6 t6 x7 t7 x8 t8
  generalize Sort.grow (redrawn WW dq) osq = W9 at kq ⊢
  have y1 := kq.heap d1 id
  have g1 := Lib.cell_of_heap y1
  have f1 := Lib.frozen_of_heap y1
  have K9 := KW.trans kq
  go_wp2
  have v9 := heap_fill9 y1 (.int .i64 4) (.int .i64 R) (.int .i64 N) (.int .i64 p) (.int .i64 0) (.string ⟨#[]⟩) (.bool false) (.int .i64 0) (.int .i64 0)
  refine bodyPost_ret (res_rcmd v9 rfl rfl) rfl ?_
  refine RCmdPost.mk (u := ByteArray.mk #[115, 112, 108, 105, 116, 32] ++ ByteArray.mk (List.toArray (sh)) ++ ByteArray.mk #[32] ++ ByteArray.mk (List.toArray (Lib.itoa p))) (d := ⟨4, ⟨R, N⟩, p, 0, [], false, ⟨0, 0⟩⟩) rfl ?_ rfl (Keeps.fill9 K9 (Nat.le_add_right _ 1) _ _ _ _ _ _ _ _ _)
  rw [bytes_app, bytes_app, bytes_app]
  refine congrArg ByteArray.mk ?_
  apply Array.ext'
  show _ = [115, 112, 108, 105, 116] ++ 32 :: (Off.showId ⟨R, N⟩ ++ 32 :: (Lib.itoa p))
  rw [Hsh.out]
  simp

set_option maxRecDepth 100000 in
set_option maxHeartbeats 4000000 in
theorem rcmd_erase_false (R N p n : Int) (tx : List UInt8) (R2 N2 : Int) (w : World) (hE : Env w) (hF : CmdFits ⟨3, ⟨R, N⟩, p, n, tx, false, ⟨R2, N2⟩⟩) :
    Calls Tryz.prog 73 #[cmdV ⟨3, ⟨R, N⟩, p, n, tx, false, ⟨R2, N2⟩⟩] w (RCmdPost (Off.joinW (Off.cmdWords ⟨3, ⟨R, N⟩, p, n, tx, false, ⟨R2, N2⟩⟩)) (Off.cmdTold ⟨3, ⟨R, N⟩, p, n, tx, false, ⟨R2, N2⟩⟩) w) := by
  have hz := hE.size
  obtain ⟨hI1, hI2, hJ1, hJ2, hp, hn, ht⟩ := hF
  simp only at hI1 hI2 hJ1 hJ2 hp hn ht
  have cS := fun w1 h => refShow_any R N w1 h
  have lS := showId_len ⟨R, N⟩ hI1 hI2
  generalize hsh : Off.showId ⟨R, N⟩ = sh at cS lS
  have Hsh := Lib.hid hsh
  clear hsh
  obtain ⟨a0, a1⟩ := two_boxes w (.cells #[.int .i64 3, .int .i64 R, .int .i64 N, .int .i64 p, .int .i64 n, .string ⟨tx.toArray⟩, .bool false, .int .i64 R2, .int .i64 N2] 77) (.cells #[.int .i64 0, .int .i64 0, .int .i64 0, .int .i64 0, .int .i64 0, .string ⟨#[]⟩, .bool false, .int .i64 0, .int .i64 0] 77)
  have kw : Keeps No w ((w.alloc (.cells #[.int .i64 3, .int .i64 R, .int .i64 N, .int .i64 p, .int .i64 n, .string ⟨tx.toArray⟩, .bool false, .int .i64 R2, .int .i64 N2] 77)).alloc (.cells #[.int .i64 0, .int .i64 0, .int .i64 0, .int .i64 0, .int .i64 0, .string ⟨#[]⟩, .bool false, .int .i64 0, .int .i64 0] 77)) := ((Keeps.refl _ _).alloc _).alloc _
  have hEw := hE.no kw
  have zW : ((w.alloc (.cells #[.int .i64 3, .int .i64 R, .int .i64 N, .int .i64 p, .int .i64 n, .string ⟨tx.toArray⟩, .bool false, .int .i64 R2, .int .i64 N2] 77)).alloc (.cells #[.int .i64 0, .int .i64 0, .int .i64 0, .int .i64 0, .int .i64 0, .string ⟨#[]⟩, .bool false, .int .i64 0, .int .i64 0] 77)).heap.size = w.heap.size + 2 := by simp
  go_enter Tryz.func73, Tryz.ntmps73
  go_wp2_with fail
  generalize (w.alloc (.cells #[.int .i64 3, .int .i64 R, .int .i64 N, .int .i64 p, .int .i64 n, .string ⟨tx.toArray⟩, .bool false, .int .i64 R2, .int .i64 N2] 77)).alloc (.cells #[.int .i64 0, .int .i64 0, .int .i64 0, .int .i64 0, .int .i64 0, .string ⟨#[]⟩, .bool false, .int .i64 0, .int .i64 0] 77) = W0 at a0 a1 kw hEw zW ⊢
  refine (cS _ hEw).mono ?_
  rintro e w1 ⟨rfl, k1⟩
  have b0 := k1.heap a0 id
  have b1 := k1.heap a1 id
  have K1 := kw.trans k1
  have z1 : w.heap.size + 2 ≤ w1.heap.size := by have := k1.size; omega
  have hE1 := hE.no K1
  have c0 := Lib.cell_of_heap b0
  have ne1 : ¬ w.heap.size = w1.heap.size := by omega
  have ne2 : ¬ w.heap.size + 1 = w1.heap.size := by omega
  have lt1 : w.heap.size < w1.heap.size := by omega
  have lt2 : w.heap.size + 1 < w1.heap.size := by omega
  clear a0 a1 kw hEw zW cS k1
  have cN : ∀ m : Int, Off.I64 m → ∀ W d os, Calls Tryz.prog 71 #[.int .i64 m] (Sort.grow (redrawn W d) os) fun e w'' => e = .returned (.string ⟨(Lib.itoa m).toArray⟩) ∧ ∃ q : Regrown, w'' = Sort.grow (redrawn W q.d) q.os :=
    fun m hm W d os => calls_regrown (refNumber_any m hm _)
  have lN := itoa_len p hp
  have lN2 := itoa_len n hn
  have m0 : ¬ 9223372036854775807 < 6 + sh.length := by omega
  have m1 : ¬ 9223372036854775807 < 6 + sh.length + 1 := by omega
  have m2 : ¬ 9223372036854775807 < 6 + sh.length + 1 + (Lib.itoa p).length := by omega
  have m3 : ¬ 9223372036854775807 < 6 + sh.length + 1 + (Lib.itoa p).length + 1 := by omega
  have m4 : ¬ 9223372036854775807 < 6 + sh.length + 1 + (Lib.itoa p).length + 1 + (Lib.itoa n).length := by omega
  go_wp2
  have d0 : (w1.alloc (.cells #[.int .i64 3, .int .i64 R, .int .i64 N, .int .i64 p, .int .i64 n, .string ⟨#[]⟩, .bool false, .int .i64 0, .int .i64 0] 77)).heap[w.heap.size]? = _ := heap_alloc_keep b0 _
  have d1 : (w1.alloc (.cells #[.int .i64 3, .int .i64 R, .int .i64 N, .int .i64 p, .int .i64 n, .string ⟨#[]⟩, .bool false, .int .i64 0, .int .i64 0] 77)).heap[w.heap.size + 1]? = _ := heap_alloc_keep b1 _
  have d2 : (w1.alloc (.cells #[.int .i64 3, .int .i64 R, .int .i64 N, .int .i64 p, .int .i64 n, .string ⟨#[]⟩, .bool false, .int .i64 0, .int .i64 0] 77)).heap[w1.heap.size]? = _ := heap_alloc_new w1 _
  have KW : Keeps No w (w1.alloc (.cells #[.int .i64 3, .int .i64 R, .int .i64 N, .int .i64 p, .int .i64 n, .string ⟨#[]⟩, .bool false, .int .i64 0, .int .i64 0] 77)) := K1.alloc _
  have hEW := hE1.alloc (.cells #[.int .i64 3, .int .i64 R, .int .i64 N, .int .i64 p, .int .i64 n, .string ⟨#[]⟩, .bool false, .int .i64 0, .int .i64 0] 77)
  generalize w1.alloc (.cells #[.int .i64 3, .int .i64 R, .int .i64 N, .int .i64 p, .int .i64 n, .string ⟨#[]⟩, .bool false, .int .i64 0, .int .i64 0] 77) = WW at d0 d1 d2 KW hEW ⊢
  have hB := Lib.cell_of_heap d0
  have hT := Lib.cell_of_heap d2
  have x0 : ∀ d os, (Sort.grow (redrawn WW d) os).cell? ⟨w.heap.size, 0, none⟩ = some (.int .i64 3) := cell_regrown (hB 0)
  have x1 : ∀ d os, (Sort.grow (redrawn WW d) os).cell? ⟨w.heap.size, 1, none⟩ = some (.int .i64 R) := cell_regrown (hB 1)
  have x2 : ∀ d os, (Sort.grow (redrawn WW d) os).cell? ⟨w.heap.size, 2, none⟩ = some (.int .i64 N) := cell_regrown (hB 2)
  have x3 : ∀ d os, (Sort.grow (redrawn WW d) os).cell? ⟨w.heap.size, 3, none⟩ = some (.int .i64 p) := cell_regrown (hB 3)
  have x4 : ∀ d os, (Sort.grow (redrawn WW d) os).cell? ⟨w.heap.size, 4, none⟩ = some (.int .i64 n) := cell_regrown (hB 4)
  have x5 : ∀ d os, (Sort.grow (redrawn WW d) os).cell? ⟨w.heap.size, 5, none⟩ = some (.string ⟨tx.toArray⟩) := cell_regrown (hB 5)
  have x6 : ∀ d os, (Sort.grow (redrawn WW d) os).cell? ⟨w.heap.size, 6, none⟩ = some (.bool false) := cell_regrown (hB 6)
  have x7 : ∀ d os, (Sort.grow (redrawn WW d) os).cell? ⟨w.heap.size, 7, none⟩ = some (.int .i64 R2) := cell_regrown (hB 7)
  have x8 : ∀ d os, (Sort.grow (redrawn WW d) os).cell? ⟨w.heap.size, 8, none⟩ = some (.int .i64 N2) := cell_regrown (hB 8)
  have t0 : ∀ d os, (Sort.grow (redrawn WW d) os).cell? ⟨w1.heap.size, 0, none⟩ = some (.int .i64 3) := cell_regrown (hT 0)
  have t1 : ∀ d os, (Sort.grow (redrawn WW d) os).cell? ⟨w1.heap.size, 1, none⟩ = some (.int .i64 R) := cell_regrown (hT 1)
  have t2 : ∀ d os, (Sort.grow (redrawn WW d) os).cell? ⟨w1.heap.size, 2, none⟩ = some (.int .i64 N) := cell_regrown (hT 2)
  have t3 : ∀ d os, (Sort.grow (redrawn WW d) os).cell? ⟨w1.heap.size, 3, none⟩ = some (.int .i64 p) := cell_regrown (hT 3)
  have t4 : ∀ d os, (Sort.grow (redrawn WW d) os).cell? ⟨w1.heap.size, 4, none⟩ = some (.int .i64 n) := cell_regrown (hT 4)
  have t5 : ∀ d os, (Sort.grow (redrawn WW d) os).cell? ⟨w1.heap.size, 5, none⟩ = some (.string ⟨#[]⟩) := cell_regrown (hT 5)
  have t6 : ∀ d os, (Sort.grow (redrawn WW d) os).cell? ⟨w1.heap.size, 6, none⟩ = some (.bool false) := cell_regrown (hT 6)
  have t7 : ∀ d os, (Sort.grow (redrawn WW d) os).cell? ⟨w1.heap.size, 7, none⟩ = some (.int .i64 0) := cell_regrown (hT 7)
  have t8 : ∀ d os, (Sort.grow (redrawn WW d) os).cell? ⟨w1.heap.size, 8, none⟩ = some (.int .i64 0) := cell_regrown (hT 8)
  clear hB hT c0 b0 b1
  refine wp_region_grown_tail 14 (by kernel_rfl) (by kernel_rfl) ?_
  simp only [List.take_succ_cons, List.take_zero, List.drop_succ_cons, List.drop_zero]
  repeat (quiet_step (exact cN _ (by assumption) _ _ _))
  refine wpQuiet_nil ?_
  intro _ hw'
  obtain ⟨⟨dq, osq⟩, hw''⟩ := hw'
  subst hw''
  have kq : Keeps No WW (Sort.grow (redrawn WW dq) osq) := keeps_regrown WW dq osq
  clear x0 t0 x1 t1 x2 t2 x3 t3 x4 t4 x5 t5 x6 t6 x7 t7 x8 t8
  generalize Sort.grow (redrawn WW dq) osq = W9 at kq ⊢
  have y1 := kq.heap d1 id
  have g1 := Lib.cell_of_heap y1
  have f1 := Lib.frozen_of_heap y1
  have K9 := KW.trans kq
  go_wp2
  have v9 := heap_fill9 y1 (.int .i64 3) (.int .i64 R) (.int .i64 N) (.int .i64 p) (.int .i64 n) (.string ⟨#[]⟩) (.bool false) (.int .i64 0) (.int .i64 0)
  refine bodyPost_ret (res_rcmd v9 rfl rfl) rfl ?_
  refine RCmdPost.mk (u := ByteArray.mk #[101, 114, 97, 115, 101, 32] ++ ByteArray.mk (List.toArray (sh)) ++ ByteArray.mk #[32] ++ ByteArray.mk (List.toArray (Lib.itoa p)) ++ ByteArray.mk #[32] ++ ByteArray.mk (List.toArray (Lib.itoa n))) (d := ⟨3, ⟨R, N⟩, p, n, [], false, ⟨0, 0⟩⟩) rfl ?_ rfl (Keeps.fill9 K9 (Nat.le_add_right _ 1) _ _ _ _ _ _ _ _ _)
  rw [bytes_app, bytes_app, bytes_app, bytes_app, bytes_app]
  refine congrArg ByteArray.mk ?_
  apply Array.ext'
  show _ = [101, 114, 97, 115, 101] ++ 32 :: (Off.showId ⟨R, N⟩ ++ 32 :: (Lib.itoa p ++ 32 :: (Lib.itoa n)))
  rw [Hsh.out]
  simp

set_option maxRecDepth 100000 in
set_option maxHeartbeats 4000000 in
theorem rcmd_type_false (R N p n : Int) (tx : List UInt8) (R2 N2 : Int) (w : World) (hE : Env w) (hF : CmdFits ⟨2, ⟨R, N⟩, p, n, tx, false, ⟨R2, N2⟩⟩) :
    Calls Tryz.prog 73 #[cmdV ⟨2, ⟨R, N⟩, p, n, tx, false, ⟨R2, N2⟩⟩] w (RCmdPost (Off.joinW (Off.cmdWords ⟨2, ⟨R, N⟩, p, n, tx, false, ⟨R2, N2⟩⟩)) (Off.cmdTold ⟨2, ⟨R, N⟩, p, n, tx, false, ⟨R2, N2⟩⟩) w) := by
  have hz := hE.size
  obtain ⟨hI1, hI2, hJ1, hJ2, hp, hn, ht⟩ := hF
  simp only at hI1 hI2 hJ1 hJ2 hp hn ht
  have cS := fun w1 h => refShow_any R N w1 h
  have lS := showId_len ⟨R, N⟩ hI1 hI2
  generalize hsh : Off.showId ⟨R, N⟩ = sh at cS lS
  have Hsh := Lib.hid hsh
  clear hsh
  obtain ⟨a0, a1⟩ := two_boxes w (.cells #[.int .i64 2, .int .i64 R, .int .i64 N, .int .i64 p, .int .i64 n, .string ⟨tx.toArray⟩, .bool false, .int .i64 R2, .int .i64 N2] 77) (.cells #[.int .i64 0, .int .i64 0, .int .i64 0, .int .i64 0, .int .i64 0, .string ⟨#[]⟩, .bool false, .int .i64 0, .int .i64 0] 77)
  have kw : Keeps No w ((w.alloc (.cells #[.int .i64 2, .int .i64 R, .int .i64 N, .int .i64 p, .int .i64 n, .string ⟨tx.toArray⟩, .bool false, .int .i64 R2, .int .i64 N2] 77)).alloc (.cells #[.int .i64 0, .int .i64 0, .int .i64 0, .int .i64 0, .int .i64 0, .string ⟨#[]⟩, .bool false, .int .i64 0, .int .i64 0] 77)) := ((Keeps.refl _ _).alloc _).alloc _
  have hEw := hE.no kw
  have zW : ((w.alloc (.cells #[.int .i64 2, .int .i64 R, .int .i64 N, .int .i64 p, .int .i64 n, .string ⟨tx.toArray⟩, .bool false, .int .i64 R2, .int .i64 N2] 77)).alloc (.cells #[.int .i64 0, .int .i64 0, .int .i64 0, .int .i64 0, .int .i64 0, .string ⟨#[]⟩, .bool false, .int .i64 0, .int .i64 0] 77)).heap.size = w.heap.size + 2 := by simp
  go_enter Tryz.func73, Tryz.ntmps73
  go_wp2_with fail
  generalize (w.alloc (.cells #[.int .i64 2, .int .i64 R, .int .i64 N, .int .i64 p, .int .i64 n, .string ⟨tx.toArray⟩, .bool false, .int .i64 R2, .int .i64 N2] 77)).alloc (.cells #[.int .i64 0, .int .i64 0, .int .i64 0, .int .i64 0, .int .i64 0, .string ⟨#[]⟩, .bool false, .int .i64 0, .int .i64 0] 77) = W0 at a0 a1 kw hEw zW ⊢
  refine (cS _ hEw).mono ?_
  rintro e w1 ⟨rfl, k1⟩
  have b0 := k1.heap a0 id
  have b1 := k1.heap a1 id
  have K1 := kw.trans k1
  have z1 : w.heap.size + 2 ≤ w1.heap.size := by have := k1.size; omega
  have hE1 := hE.no K1
  have c0 := Lib.cell_of_heap b0
  have ne1 : ¬ w.heap.size = w1.heap.size := by omega
  have ne2 : ¬ w.heap.size + 1 = w1.heap.size := by omega
  have lt1 : w.heap.size < w1.heap.size := by omega
  have lt2 : w.heap.size + 1 < w1.heap.size := by omega
  clear a0 a1 kw hEw zW cS k1
  have cN : ∀ m : Int, Off.I64 m → ∀ W d os, Calls Tryz.prog 71 #[.int .i64 m] (Sort.grow (redrawn W d) os) fun e w'' => e = .returned (.string ⟨(Lib.itoa m).toArray⟩) ∧ ∃ q : Regrown, w'' = Sort.grow (redrawn W q.d) q.os :=
    fun m hm W d os => calls_regrown (refNumber_any m hm _)
  have cQ : ∀ W d os, Calls Tryz.prog 116 #[.string ⟨tx.toArray⟩] (Sort.grow (redrawn W d) os) fun e w'' => e = .returned (.string ⟨(Off.quoted tx).toArray⟩) ∧ ∃ q : Regrown, w'' = Sort.grow (redrawn W q.d) q.os :=
    fun W d os => calls_regrown (refQuoted_any tx _ ht)
  have lQ := quoted_len tx
  have lN := itoa_len p hp
  have m0 : ¬ 9223372036854775807 < 5 + sh.length := by omega
  have m1 : ¬ 9223372036854775807 < 5 + sh.length + 1 := by omega
  have m2 : ¬ 9223372036854775807 < 5 + sh.length + 1 + (Lib.itoa p).length := by omega
  have m3 : ¬ 9223372036854775807 < 5 + sh.length + 1 + (Lib.itoa p).length + 1 := by omega
  have m4 : ¬ 9223372036854775807 < 5 + sh.length + 1 + (Lib.itoa p).length + 1 + (Off.quoted tx).length := by omega
  go_wp2
  have d0 : (w1.alloc (.cells #[.int .i64 2, .int .i64 R, .int .i64 N, .int .i64 p, .int .i64 0, .string ⟨tx.toArray⟩, .bool false, .int .i64 0, .int .i64 0] 77)).heap[w.heap.size]? = _ := heap_alloc_keep b0 _
  have d1 : (w1.alloc (.cells #[.int .i64 2, .int .i64 R, .int .i64 N, .int .i64 p, .int .i64 0, .string ⟨tx.toArray⟩, .bool false, .int .i64 0, .int .i64 0] 77)).heap[w.heap.size + 1]? = _ := heap_alloc_keep b1 _
  have d2 : (w1.alloc (.cells #[.int .i64 2, .int .i64 R, .int .i64 N, .int .i64 p, .int .i64 0, .string ⟨tx.toArray⟩, .bool false, .int .i64 0, .int .i64 0] 77)).heap[w1.heap.size]? = _ := heap_alloc_new w1 _
  have KW : Keeps No w (w1.alloc (.cells #[.int .i64 2, .int .i64 R, .int .i64 N, .int .i64 p, .int .i64 0, .string ⟨tx.toArray⟩, .bool false, .int .i64 0, .int .i64 0] 77)) := K1.alloc _
  have hEW := hE1.alloc (.cells #[.int .i64 2, .int .i64 R, .int .i64 N, .int .i64 p, .int .i64 0, .string ⟨tx.toArray⟩, .bool false, .int .i64 0, .int .i64 0] 77)
  generalize w1.alloc (.cells #[.int .i64 2, .int .i64 R, .int .i64 N, .int .i64 p, .int .i64 0, .string ⟨tx.toArray⟩, .bool false, .int .i64 0, .int .i64 0] 77) = WW at d0 d1 d2 KW hEW ⊢
  have hB := Lib.cell_of_heap d0
  have hT := Lib.cell_of_heap d2
  have x0 : ∀ d os, (Sort.grow (redrawn WW d) os).cell? ⟨w.heap.size, 0, none⟩ = some (.int .i64 2) := cell_regrown (hB 0)
  have x1 : ∀ d os, (Sort.grow (redrawn WW d) os).cell? ⟨w.heap.size, 1, none⟩ = some (.int .i64 R) := cell_regrown (hB 1)
  have x2 : ∀ d os, (Sort.grow (redrawn WW d) os).cell? ⟨w.heap.size, 2, none⟩ = some (.int .i64 N) := cell_regrown (hB 2)
  have x3 : ∀ d os, (Sort.grow (redrawn WW d) os).cell? ⟨w.heap.size, 3, none⟩ = some (.int .i64 p) := cell_regrown (hB 3)
  have x4 : ∀ d os, (Sort.grow (redrawn WW d) os).cell? ⟨w.heap.size, 4, none⟩ = some (.int .i64 n) := cell_regrown (hB 4)
  have x5 : ∀ d os, (Sort.grow (redrawn WW d) os).cell? ⟨w.heap.size, 5, none⟩ = some (.string ⟨tx.toArray⟩) := cell_regrown (hB 5)
  have x6 : ∀ d os, (Sort.grow (redrawn WW d) os).cell? ⟨w.heap.size, 6, none⟩ = some (.bool false) := cell_regrown (hB 6)
  have x7 : ∀ d os, (Sort.grow (redrawn WW d) os).cell? ⟨w.heap.size, 7, none⟩ = some (.int .i64 R2) := cell_regrown (hB 7)
  have x8 : ∀ d os, (Sort.grow (redrawn WW d) os).cell? ⟨w.heap.size, 8, none⟩ = some (.int .i64 N2) := cell_regrown (hB 8)
  have t0 : ∀ d os, (Sort.grow (redrawn WW d) os).cell? ⟨w1.heap.size, 0, none⟩ = some (.int .i64 2) := cell_regrown (hT 0)
  have t1 : ∀ d os, (Sort.grow (redrawn WW d) os).cell? ⟨w1.heap.size, 1, none⟩ = some (.int .i64 R) := cell_regrown (hT 1)
  have t2 : ∀ d os, (Sort.grow (redrawn WW d) os).cell? ⟨w1.heap.size, 2, none⟩ = some (.int .i64 N) := cell_regrown (hT 2)
  have t3 : ∀ d os, (Sort.grow (redrawn WW d) os).cell? ⟨w1.heap.size, 3, none⟩ = some (.int .i64 p) := cell_regrown (hT 3)
  have t4 : ∀ d os, (Sort.grow (redrawn WW d) os).cell? ⟨w1.heap.size, 4, none⟩ = some (.int .i64 0) := cell_regrown (hT 4)
  have t5 : ∀ d os, (Sort.grow (redrawn WW d) os).cell? ⟨w1.heap.size, 5, none⟩ = some (.string ⟨tx.toArray⟩) := cell_regrown (hT 5)
  have t6 : ∀ d os, (Sort.grow (redrawn WW d) os).cell? ⟨w1.heap.size, 6, none⟩ = some (.bool false) := cell_regrown (hT 6)
  have t7 : ∀ d os, (Sort.grow (redrawn WW d) os).cell? ⟨w1.heap.size, 7, none⟩ = some (.int .i64 0) := cell_regrown (hT 7)
  have t8 : ∀ d os, (Sort.grow (redrawn WW d) os).cell? ⟨w1.heap.size, 8, none⟩ = some (.int .i64 0) := cell_regrown (hT 8)
  clear hB hT c0 b0 b1
  refine wp_region_grown_tail 14 (by kernel_rfl) (by kernel_rfl) ?_
  simp only [List.take_succ_cons, List.take_zero, List.drop_succ_cons, List.drop_zero]
  repeat (quiet_step ((first | (go_at_call 71; exact cN _ (by assumption) _ _ _) | (go_at_call 116; exact cQ _ _ _))))
  refine wpQuiet_nil ?_
  intro _ hw'
  obtain ⟨⟨dq, osq⟩, hw''⟩ := hw'
  subst hw''
  have kq : Keeps No WW (Sort.grow (redrawn WW dq) osq) := keeps_regrown WW dq osq
  clear x0 t0 x1 t1 x2 t2 x3 t3 x4 t4 x5 t5 x6 t6 x7 t7 x8 t8
  generalize Sort.grow (redrawn WW dq) osq = W9 at kq ⊢
  have y1 := kq.heap d1 id
  have g1 := Lib.cell_of_heap y1
  have f1 := Lib.frozen_of_heap y1
  have K9 := KW.trans kq
  go_wp2
  have v9 := heap_fill9 y1 (.int .i64 2) (.int .i64 R) (.int .i64 N) (.int .i64 p) (.int .i64 0) (.string ⟨tx.toArray⟩) (.bool false) (.int .i64 0) (.int .i64 0)
  refine bodyPost_ret (res_rcmd v9 rfl rfl) rfl ?_
  refine RCmdPost.mk (u := ByteArray.mk #[116, 121, 112, 101, 32] ++ ByteArray.mk (List.toArray (sh)) ++ ByteArray.mk #[32] ++ ByteArray.mk (List.toArray (Lib.itoa p)) ++ ByteArray.mk #[32] ++ ByteArray.mk (List.toArray (Off.quoted tx))) (d := ⟨2, ⟨R, N⟩, p, 0, tx, false, ⟨0, 0⟩⟩) rfl ?_ rfl (Keeps.fill9 K9 (Nat.le_add_right _ 1) _ _ _ _ _ _ _ _ _)
  rw [bytes_app, bytes_app, bytes_app, bytes_app, bytes_app]
  refine congrArg ByteArray.mk ?_
  apply Array.ext'
  show _ = [116, 121, 112, 101] ++ 32 :: (Off.showId ⟨R, N⟩ ++ 32 :: (Lib.itoa p ++ 32 :: (Off.quoted tx)))
  rw [Hsh.out]
  simp

set_option maxRecDepth 100000 in
set_option maxHeartbeats 4000000 in
theorem rcmd_place_false (R N p n : Int) (tx : List UInt8) (R2 N2 : Int) (w : World) (hE : Env w) (hF : CmdFits ⟨14, ⟨R, N⟩, p, n, tx, false, ⟨R2, N2⟩⟩) :
    Calls Tryz.prog 73 #[cmdV ⟨14, ⟨R, N⟩, p, n, tx, false, ⟨R2, N2⟩⟩] w (RCmdPost (Off.joinW (Off.cmdWords ⟨14, ⟨R, N⟩, p, n, tx, false, ⟨R2, N2⟩⟩)) (Off.cmdTold ⟨14, ⟨R, N⟩, p, n, tx, false, ⟨R2, N2⟩⟩) w) := by
  have hz := hE.size
  obtain ⟨hI1, hI2, hJ1, hJ2, hp, hn, ht⟩ := hF
  simp only at hI1 hI2 hJ1 hJ2 hp hn ht
  have cS := fun w1 h => refShow_any R N w1 h
  have lS := showId_len ⟨R, N⟩ hI1 hI2
  generalize hsh : Off.showId ⟨R, N⟩ = sh at cS lS
  have Hsh := Lib.hid hsh
  clear hsh
  obtain ⟨a0, a1⟩ := two_boxes w (.cells #[.int .i64 14, .int .i64 R, .int .i64 N, .int .i64 p, .int .i64 n, .string ⟨tx.toArray⟩, .bool false, .int .i64 R2, .int .i64 N2] 77) (.cells #[.int .i64 0, .int .i64 0, .int .i64 0, .int .i64 0, .int .i64 0, .string ⟨#[]⟩, .bool false, .int .i64 0, .int .i64 0] 77)
  have kw : Keeps No w ((w.alloc (.cells #[.int .i64 14, .int .i64 R, .int .i64 N, .int .i64 p, .int .i64 n, .string ⟨tx.toArray⟩, .bool false, .int .i64 R2, .int .i64 N2] 77)).alloc (.cells #[.int .i64 0, .int .i64 0, .int .i64 0, .int .i64 0, .int .i64 0, .string ⟨#[]⟩, .bool false, .int .i64 0, .int .i64 0] 77)) := ((Keeps.refl _ _).alloc _).alloc _
  have hEw := hE.no kw
  have zW : ((w.alloc (.cells #[.int .i64 14, .int .i64 R, .int .i64 N, .int .i64 p, .int .i64 n, .string ⟨tx.toArray⟩, .bool false, .int .i64 R2, .int .i64 N2] 77)).alloc (.cells #[.int .i64 0, .int .i64 0, .int .i64 0, .int .i64 0, .int .i64 0, .string ⟨#[]⟩, .bool false, .int .i64 0, .int .i64 0] 77)).heap.size = w.heap.size + 2 := by simp
  go_enter Tryz.func73, Tryz.ntmps73
  go_wp2_with fail
  generalize (w.alloc (.cells #[.int .i64 14, .int .i64 R, .int .i64 N, .int .i64 p, .int .i64 n, .string ⟨tx.toArray⟩, .bool false, .int .i64 R2, .int .i64 N2] 77)).alloc (.cells #[.int .i64 0, .int .i64 0, .int .i64 0, .int .i64 0, .int .i64 0, .string ⟨#[]⟩, .bool false, .int .i64 0, .int .i64 0] 77) = W0 at a0 a1 kw hEw zW ⊢
  refine (cS _ hEw).mono ?_
  rintro e w1 ⟨rfl, k1⟩
  have b0 := k1.heap a0 id
  have b1 := k1.heap a1 id
  have K1 := kw.trans k1
  have z1 : w.heap.size + 2 ≤ w1.heap.size := by have := k1.size; omega
  have hE1 := hE.no K1
  have c0 := Lib.cell_of_heap b0
  have ne1 : ¬ w.heap.size = w1.heap.size := by omega
  have ne2 : ¬ w.heap.size + 1 = w1.heap.size := by omega
  have lt1 : w.heap.size < w1.heap.size := by omega
  have lt2 : w.heap.size + 1 < w1.heap.size := by omega
  clear a0 a1 kw hEw zW cS k1
  have cS2 : ∀ W, Env W → ∀ d os, Calls Tryz.prog 115 #[.agg #[.int .i64 R2, .int .i64 N2]] (Sort.grow (redrawn W d) os) fun e w'' => e = .returned (.string ⟨(Off.showId ⟨R2, N2⟩).toArray⟩) ∧ ∃ q : Regrown, w'' = Sort.grow (redrawn W q.d) q.os :=
    fun W h d os => calls_regrown (refShow_any R2 N2 _ (h.regrown d os))
  have lS2 := showId_len ⟨R2, N2⟩ hJ1 hJ2
  have cQ : ∀ W d os, Calls Tryz.prog 116 #[.string ⟨tx.toArray⟩] (Sort.grow (redrawn W d) os) fun e w'' => e = .returned (.string ⟨(Off.quoted tx).toArray⟩) ∧ ∃ q : Regrown, w'' = Sort.grow (redrawn W q.d) q.os :=
    fun W d os => calls_regrown (refQuoted_any tx _ ht)
  have lQ := quoted_len tx
  have m0 : ¬ 9223372036854775807 < 6 + sh.length := by omega
  have m1 : ¬ 9223372036854775807 < 6 + sh.length + 1 := by omega
  have m2 : ¬ 9223372036854775807 < 6 + sh.length + 1 + (Off.showId ⟨R2, N2⟩).length := by omega
  have m3 : ¬ 9223372036854775807 < 6 + sh.length + 1 + (Off.showId ⟨R2, N2⟩).length + 1 := by omega
  have m4 : ¬ 9223372036854775807 < 6 + sh.length + 1 + (Off.showId ⟨R2, N2⟩).length + 1 + (Off.quoted tx).length := by omega
  go_wp2
  have d0 : (w1.alloc (.cells #[.int .i64 14, .int .i64 R, .int .i64 N, .int .i64 0, .int .i64 0, .string ⟨tx.toArray⟩, .bool false, .int .i64 R2, .int .i64 N2] 77)).heap[w.heap.size]? = _ := heap_alloc_keep b0 _
  have d1 : (w1.alloc (.cells #[.int .i64 14, .int .i64 R, .int .i64 N, .int .i64 0, .int .i64 0, .string ⟨tx.toArray⟩, .bool false, .int .i64 R2, .int .i64 N2] 77)).heap[w.heap.size + 1]? = _ := heap_alloc_keep b1 _
  have d2 : (w1.alloc (.cells #[.int .i64 14, .int .i64 R, .int .i64 N, .int .i64 0, .int .i64 0, .string ⟨tx.toArray⟩, .bool false, .int .i64 R2, .int .i64 N2] 77)).heap[w1.heap.size]? = _ := heap_alloc_new w1 _
  have KW : Keeps No w (w1.alloc (.cells #[.int .i64 14, .int .i64 R, .int .i64 N, .int .i64 0, .int .i64 0, .string ⟨tx.toArray⟩, .bool false, .int .i64 R2, .int .i64 N2] 77)) := K1.alloc _
  have hEW := hE1.alloc (.cells #[.int .i64 14, .int .i64 R, .int .i64 N, .int .i64 0, .int .i64 0, .string ⟨tx.toArray⟩, .bool false, .int .i64 R2, .int .i64 N2] 77)
  generalize w1.alloc (.cells #[.int .i64 14, .int .i64 R, .int .i64 N, .int .i64 0, .int .i64 0, .string ⟨tx.toArray⟩, .bool false, .int .i64 R2, .int .i64 N2] 77) = WW at d0 d1 d2 KW hEW ⊢
  have hB := Lib.cell_of_heap d0
  have hT := Lib.cell_of_heap d2
  have x0 : ∀ d os, (Sort.grow (redrawn WW d) os).cell? ⟨w.heap.size, 0, none⟩ = some (.int .i64 14) := cell_regrown (hB 0)
  have x1 : ∀ d os, (Sort.grow (redrawn WW d) os).cell? ⟨w.heap.size, 1, none⟩ = some (.int .i64 R) := cell_regrown (hB 1)
  have x2 : ∀ d os, (Sort.grow (redrawn WW d) os).cell? ⟨w.heap.size, 2, none⟩ = some (.int .i64 N) := cell_regrown (hB 2)
  have x3 : ∀ d os, (Sort.grow (redrawn WW d) os).cell? ⟨w.heap.size, 3, none⟩ = some (.int .i64 p) := cell_regrown (hB 3)
  have x4 : ∀ d os, (Sort.grow (redrawn WW d) os).cell? ⟨w.heap.size, 4, none⟩ = some (.int .i64 n) := cell_regrown (hB 4)
  have x5 : ∀ d os, (Sort.grow (redrawn WW d) os).cell? ⟨w.heap.size, 5, none⟩ = some (.string ⟨tx.toArray⟩) := cell_regrown (hB 5)
  have x6 : ∀ d os, (Sort.grow (redrawn WW d) os).cell? ⟨w.heap.size, 6, none⟩ = some (.bool false) := cell_regrown (hB 6)
  have x7 : ∀ d os, (Sort.grow (redrawn WW d) os).cell? ⟨w.heap.size, 7, none⟩ = some (.int .i64 R2) := cell_regrown (hB 7)
  have x8 : ∀ d os, (Sort.grow (redrawn WW d) os).cell? ⟨w.heap.size, 8, none⟩ = some (.int .i64 N2) := cell_regrown (hB 8)
  have t0 : ∀ d os, (Sort.grow (redrawn WW d) os).cell? ⟨w1.heap.size, 0, none⟩ = some (.int .i64 14) := cell_regrown (hT 0)
  have t1 : ∀ d os, (Sort.grow (redrawn WW d) os).cell? ⟨w1.heap.size, 1, none⟩ = some (.int .i64 R) := cell_regrown (hT 1)
  have t2 : ∀ d os, (Sort.grow (redrawn WW d) os).cell? ⟨w1.heap.size, 2, none⟩ = some (.int .i64 N) := cell_regrown (hT 2)
  have t3 : ∀ d os, (Sort.grow (redrawn WW d) os).cell? ⟨w1.heap.size, 3, none⟩ = some (.int .i64 0) := cell_regrown (hT 3)
  have t4 : ∀ d os, (Sort.grow (redrawn WW d) os).cell? ⟨w1.heap.size, 4, none⟩ = some (.int .i64 0) := cell_regrown (hT 4)
  have t5 : ∀ d os, (Sort.grow (redrawn WW d) os).cell? ⟨w1.heap.size, 5, none⟩ = some (.string ⟨tx.toArray⟩) := cell_regrown (hT 5)
  have t6 : ∀ d os, (Sort.grow (redrawn WW d) os).cell? ⟨w1.heap.size, 6, none⟩ = some (.bool false) := cell_regrown (hT 6)
  have t7 : ∀ d os, (Sort.grow (redrawn WW d) os).cell? ⟨w1.heap.size, 7, none⟩ = some (.int .i64 R2) := cell_regrown (hT 7)
  have t8 : ∀ d os, (Sort.grow (redrawn WW d) os).cell? ⟨w1.heap.size, 8, none⟩ = some (.int .i64 N2) := cell_regrown (hT 8)
  clear hB hT c0 b0 b1
  refine wp_region_grown_tail 14 (by kernel_rfl) (by kernel_rfl) ?_
  simp only [List.take_succ_cons, List.take_zero, List.drop_succ_cons, List.drop_zero]
  repeat (quiet_step ((first | (go_at_call 115; exact cS2 _ hEW _ _) | (go_at_call 116; exact cQ _ _ _))))
  refine wpQuiet_nil ?_
  intro _ hw'
  obtain ⟨⟨dq, osq⟩, hw''⟩ := hw'
  subst hw''
  have kq : Keeps No WW (Sort.grow (redrawn WW dq) osq) := keeps_regrown WW dq osq
  clear x0 t0 x1 t1 x2 t2 x3 t3 x4 t4 x5 t5 x6 t6 x7 t7 x8 t8
  generalize Sort.grow (redrawn WW dq) osq = W9 at kq ⊢
  have y1 := kq.heap d1 id
  have g1 := Lib.cell_of_heap y1
  have f1 := Lib.frozen_of_heap y1
  have K9 := KW.trans kq
  go_wp2
  have v9 := heap_fill9 y1 (.int .i64 14) (.int .i64 R) (.int .i64 N) (.int .i64 0) (.int .i64 0) (.string ⟨tx.toArray⟩) (.bool false) (.int .i64 R2) (.int .i64 N2)
  refine bodyPost_ret (res_rcmd v9 rfl rfl) rfl ?_
  refine RCmdPost.mk (u := ByteArray.mk #[112, 108, 97, 99, 101, 32] ++ ByteArray.mk (List.toArray (sh)) ++ ByteArray.mk #[32] ++ ByteArray.mk (List.toArray (Off.showId ⟨R2, N2⟩)) ++ ByteArray.mk #[32] ++ ByteArray.mk (List.toArray (Off.quoted tx))) (d := ⟨14, ⟨R, N⟩, 0, 0, tx, false, ⟨R2, N2⟩⟩) rfl ?_ rfl (Keeps.fill9 K9 (Nat.le_add_right _ 1) _ _ _ _ _ _ _ _ _)
  rw [bytes_app, bytes_app, bytes_app, bytes_app, bytes_app]
  refine congrArg ByteArray.mk ?_
  apply Array.ext'
  show _ = [112, 108, 97, 99, 101] ++ 32 :: (Off.showId ⟨R, N⟩ ++ 32 :: (Off.showId ⟨R2, N2⟩ ++ 32 :: (Off.quoted tx)))
  rw [Hsh.out]
  simp

set_option maxRecDepth 100000 in
set_option maxHeartbeats 4000000 in
theorem rcmd_new_false (R N p n : Int) (tx : List UInt8) (R2 N2 : Int) (w : World) (hE : Env w) (hF : CmdFits ⟨1, ⟨R, N⟩, p, n, tx, false, ⟨R2, N2⟩⟩) :
    Calls Tryz.prog 73 #[cmdV ⟨1, ⟨R, N⟩, p, n, tx, false, ⟨R2, N2⟩⟩] w (RCmdPost (Off.joinW (Off.cmdWords ⟨1, ⟨R, N⟩, p, n, tx, false, ⟨R2, N2⟩⟩)) (Off.cmdTold ⟨1, ⟨R, N⟩, p, n, tx, false, ⟨R2, N2⟩⟩) w) := by
  have hz := hE.size
  obtain ⟨hI1, hI2, hJ1, hJ2, hp, hn, ht⟩ := hF
  simp only at hI1 hI2 hJ1 hJ2 hp hn ht
  have cS := fun w1 h => refShow_any R N w1 h
  have lS := showId_len ⟨R, N⟩ hI1 hI2
  generalize hsh : Off.showId ⟨R, N⟩ = sh at cS lS
  have Hsh := Lib.hid hsh
  clear hsh
  obtain ⟨a0, a1⟩ := two_boxes w (.cells #[.int .i64 1, .int .i64 R, .int .i64 N, .int .i64 p, .int .i64 n, .string ⟨tx.toArray⟩, .bool false, .int .i64 R2, .int .i64 N2] 77) (.cells #[.int .i64 0, .int .i64 0, .int .i64 0, .int .i64 0, .int .i64 0, .string ⟨#[]⟩, .bool false, .int .i64 0, .int .i64 0] 77)
  have kw : Keeps No w ((w.alloc (.cells #[.int .i64 1, .int .i64 R, .int .i64 N, .int .i64 p, .int .i64 n, .string ⟨tx.toArray⟩, .bool false, .int .i64 R2, .int .i64 N2] 77)).alloc (.cells #[.int .i64 0, .int .i64 0, .int .i64 0, .int .i64 0, .int .i64 0, .string ⟨#[]⟩, .bool false, .int .i64 0, .int .i64 0] 77)) := ((Keeps.refl _ _).alloc _).alloc _
  have hEw := hE.no kw
  have zW : ((w.alloc (.cells #[.int .i64 1, .int .i64 R, .int .i64 N, .int .i64 p, .int .i64 n, .string ⟨tx.toArray⟩, .bool false, .int .i64 R2, .int .i64 N2] 77)).alloc (.cells #[.int .i64 0, .int .i64 0, .int .i64 0, .int .i64 0, .int .i64 0, .string ⟨#[]⟩, .bool false, .int .i64 0, .int .i64 0] 77)).heap.size = w.heap.size + 2 := by simp
  go_enter Tryz.func73, Tryz.ntmps73
  go_wp2_with fail
  generalize (w.alloc (.cells #[.int .i64 1, .int .i64 R, .int .i64 N, .int .i64 p, .int .i64 n, .string ⟨tx.toArray⟩, .bool false, .int .i64 R2, .int .i64 N2] 77)).alloc (.cells #[.int .i64 0, .int .i64 0, .int .i64 0, .int .i64 0, .int .i64 0, .string ⟨#[]⟩, .bool false, .int .i64 0, .int .i64 0] 77) = W0 at a0 a1 kw hEw zW ⊢
  refine (cS _ hEw).mono ?_
  rintro e w1 ⟨rfl, k1⟩
  have b0 := k1.heap a0 id
  have b1 := k1.heap a1 id
  have K1 := kw.trans k1
  have z1 : w.heap.size + 2 ≤ w1.heap.size := by have := k1.size; omega
  have hE1 := hE.no K1
  have c0 := Lib.cell_of_heap b0
  have ne1 : ¬ w.heap.size = w1.heap.size := by omega
  have ne2 : ¬ w.heap.size + 1 = w1.heap.size := by omega
  have lt1 : w.heap.size < w1.heap.size := by omega
  have lt2 : w.heap.size + 1 < w1.heap.size := by omega
  clear a0 a1 kw hEw zW cS k1
  have cQ : ∀ W d os, Calls Tryz.prog 116 #[.string ⟨tx.toArray⟩] (Sort.grow (redrawn W d) os) fun e w'' => e = .returned (.string ⟨(Off.quoted tx).toArray⟩) ∧ ∃ q : Regrown, w'' = Sort.grow (redrawn W q.d) q.os :=
    fun W d os => calls_regrown (refQuoted_any tx _ ht)
  have lQ := quoted_len tx
  have m0 : ¬ 9223372036854775807 < 11 + sh.length := by omega
  have m1 : ¬ 9223372036854775807 < 11 + sh.length + 1 := by omega
  have m2 : ¬ 9223372036854775807 < 11 + sh.length + 1 + (Off.quoted tx).length := by omega
  go_wp2
  have d0 : (w1.alloc (.cells #[.int .i64 1, .int .i64 R, .int .i64 N, .int .i64 0, .int .i64 0, .string ⟨tx.toArray⟩, .bool false, .int .i64 0, .int .i64 0] 77)).heap[w.heap.size]? = _ := heap_alloc_keep b0 _
  have d1 : (w1.alloc (.cells #[.int .i64 1, .int .i64 R, .int .i64 N, .int .i64 0, .int .i64 0, .string ⟨tx.toArray⟩, .bool false, .int .i64 0, .int .i64 0] 77)).heap[w.heap.size + 1]? = _ := heap_alloc_keep b1 _
  have d2 : (w1.alloc (.cells #[.int .i64 1, .int .i64 R, .int .i64 N, .int .i64 0, .int .i64 0, .string ⟨tx.toArray⟩, .bool false, .int .i64 0, .int .i64 0] 77)).heap[w1.heap.size]? = _ := heap_alloc_new w1 _
  have KW : Keeps No w (w1.alloc (.cells #[.int .i64 1, .int .i64 R, .int .i64 N, .int .i64 0, .int .i64 0, .string ⟨tx.toArray⟩, .bool false, .int .i64 0, .int .i64 0] 77)) := K1.alloc _
  have hEW := hE1.alloc (.cells #[.int .i64 1, .int .i64 R, .int .i64 N, .int .i64 0, .int .i64 0, .string ⟨tx.toArray⟩, .bool false, .int .i64 0, .int .i64 0] 77)
  generalize w1.alloc (.cells #[.int .i64 1, .int .i64 R, .int .i64 N, .int .i64 0, .int .i64 0, .string ⟨tx.toArray⟩, .bool false, .int .i64 0, .int .i64 0] 77) = WW at d0 d1 d2 KW hEW ⊢
  have hB := Lib.cell_of_heap d0
  have hT := Lib.cell_of_heap d2
  have x0 : ∀ d os, (Sort.grow (redrawn WW d) os).cell? ⟨w.heap.size, 0, none⟩ = some (.int .i64 1) := cell_regrown (hB 0)
  have x1 : ∀ d os, (Sort.grow (redrawn WW d) os).cell? ⟨w.heap.size, 1, none⟩ = some (.int .i64 R) := cell_regrown (hB 1)
  have x2 : ∀ d os, (Sort.grow (redrawn WW d) os).cell? ⟨w.heap.size, 2, none⟩ = some (.int .i64 N) := cell_regrown (hB 2)
  have x3 : ∀ d os, (Sort.grow (redrawn WW d) os).cell? ⟨w.heap.size, 3, none⟩ = some (.int .i64 p) := cell_regrown (hB 3)
  have x4 : ∀ d os, (Sort.grow (redrawn WW d) os).cell? ⟨w.heap.size, 4, none⟩ = some (.int .i64 n) := cell_regrown (hB 4)
  have x5 : ∀ d os, (Sort.grow (redrawn WW d) os).cell? ⟨w.heap.size, 5, none⟩ = some (.string ⟨tx.toArray⟩) := cell_regrown (hB 5)
  have x6 : ∀ d os, (Sort.grow (redrawn WW d) os).cell? ⟨w.heap.size, 6, none⟩ = some (.bool false) := cell_regrown (hB 6)
  have x7 : ∀ d os, (Sort.grow (redrawn WW d) os).cell? ⟨w.heap.size, 7, none⟩ = some (.int .i64 R2) := cell_regrown (hB 7)
  have x8 : ∀ d os, (Sort.grow (redrawn WW d) os).cell? ⟨w.heap.size, 8, none⟩ = some (.int .i64 N2) := cell_regrown (hB 8)
  have t0 : ∀ d os, (Sort.grow (redrawn WW d) os).cell? ⟨w1.heap.size, 0, none⟩ = some (.int .i64 1) := cell_regrown (hT 0)
  have t1 : ∀ d os, (Sort.grow (redrawn WW d) os).cell? ⟨w1.heap.size, 1, none⟩ = some (.int .i64 R) := cell_regrown (hT 1)
  have t2 : ∀ d os, (Sort.grow (redrawn WW d) os).cell? ⟨w1.heap.size, 2, none⟩ = some (.int .i64 N) := cell_regrown (hT 2)
  have t3 : ∀ d os, (Sort.grow (redrawn WW d) os).cell? ⟨w1.heap.size, 3, none⟩ = some (.int .i64 0) := cell_regrown (hT 3)
  have t4 : ∀ d os, (Sort.grow (redrawn WW d) os).cell? ⟨w1.heap.size, 4, none⟩ = some (.int .i64 0) := cell_regrown (hT 4)
  have t5 : ∀ d os, (Sort.grow (redrawn WW d) os).cell? ⟨w1.heap.size, 5, none⟩ = some (.string ⟨tx.toArray⟩) := cell_regrown (hT 5)
  have t6 : ∀ d os, (Sort.grow (redrawn WW d) os).cell? ⟨w1.heap.size, 6, none⟩ = some (.bool false) := cell_regrown (hT 6)
  have t7 : ∀ d os, (Sort.grow (redrawn WW d) os).cell? ⟨w1.heap.size, 7, none⟩ = some (.int .i64 0) := cell_regrown (hT 7)
  have t8 : ∀ d os, (Sort.grow (redrawn WW d) os).cell? ⟨w1.heap.size, 8, none⟩ = some (.int .i64 0) := cell_regrown (hT 8)
  clear hB hT c0 b0 b1
  refine wp_region_grown_tail 11 (by kernel_rfl) (by kernel_rfl) ?_
  simp only [List.take_succ_cons, List.take_zero, List.drop_succ_cons, List.drop_zero]
  repeat (quiet_step (exact cQ _ _ _))
  refine wpQuiet_nil ?_
  intro _ hw'
  obtain ⟨⟨dq, osq⟩, hw''⟩ := hw'
  subst hw''
  have kq : Keeps No WW (Sort.grow (redrawn WW dq) osq) := keeps_regrown WW dq osq
  clear x0 t0 x1 t1 x2 t2 x3 t3 x4 t4 x5 t5 x6 t6 x7 t7 x8 t8
  generalize Sort.grow (redrawn WW dq) osq = W9 at kq ⊢
  have y1 := kq.heap d1 id
  have g1 := Lib.cell_of_heap y1
  have f1 := Lib.frozen_of_heap y1
  have K9 := KW.trans kq
  go_wp2
  have v9 := heap_fill9 y1 (.int .i64 1) (.int .i64 R) (.int .i64 N) (.int .i64 0) (.int .i64 0) (.string ⟨tx.toArray⟩) (.bool false) (.int .i64 0) (.int .i64 0)
  refine bodyPost_ret (res_rcmd v9 rfl rfl) rfl ?_
  refine RCmdPost.mk (u := ByteArray.mk #[110, 101, 119, 32, 98, 101, 104, 105, 110, 100, 32] ++ ByteArray.mk (List.toArray (sh)) ++ ByteArray.mk #[32] ++ ByteArray.mk (List.toArray (Off.quoted tx))) (d := ⟨1, ⟨R, N⟩, 0, 0, tx, false, ⟨0, 0⟩⟩) rfl ?_ rfl (Keeps.fill9 K9 (Nat.le_add_right _ 1) _ _ _ _ _ _ _ _ _)
  rw [bytes_app, bytes_app, bytes_app]
  refine congrArg ByteArray.mk ?_
  apply Array.ext'
  show _ = [110, 101, 119] ++ 32 :: ([98, 101, 104, 105, 110, 100] ++ 32 :: (Off.showId ⟨R, N⟩ ++ 32 :: (Off.quoted tx)))
  rw [Hsh.out]
  simp

set_option maxRecDepth 100000 in
set_option maxHeartbeats 4000000 in
theorem rcmd_move_false (R N p n : Int) (tx : List UInt8) (R2 N2 : Int) (w : World) (hE : Env w) (hF : CmdFits ⟨13, ⟨R, N⟩, p, n, tx, false, ⟨R2, N2⟩⟩) :
    Calls Tryz.prog 73 #[cmdV ⟨13, ⟨R, N⟩, p, n, tx, false, ⟨R2, N2⟩⟩] w (RCmdPost (Off.joinW (Off.cmdWords ⟨13, ⟨R, N⟩, p, n, tx, false, ⟨R2, N2⟩⟩)) (Off.cmdTold ⟨13, ⟨R, N⟩, p, n, tx, false, ⟨R2, N2⟩⟩) w) := by
  have hz := hE.size
  obtain ⟨hI1, hI2, hJ1, hJ2, hp, hn, ht⟩ := hF
  simp only at hI1 hI2 hJ1 hJ2 hp hn ht
  have cS := fun w1 h => refShow_any R N w1 h
  have lS := showId_len ⟨R, N⟩ hI1 hI2
  generalize hsh : Off.showId ⟨R, N⟩ = sh at cS lS
  have Hsh := Lib.hid hsh
  clear hsh
  obtain ⟨a0, a1⟩ := two_boxes w (.cells #[.int .i64 13, .int .i64 R, .int .i64 N, .int .i64 p, .int .i64 n, .string ⟨tx.toArray⟩, .bool false, .int .i64 R2, .int .i64 N2] 77) (.cells #[.int .i64 0, .int .i64 0, .int .i64 0, .int .i64 0, .int .i64 0, .string ⟨#[]⟩, .bool false, .int .i64 0, .int .i64 0] 77)
  have kw : Keeps No w ((w.alloc (.cells #[.int .i64 13, .int .i64 R, .int .i64 N, .int .i64 p, .int .i64 n, .string ⟨tx.toArray⟩, .bool false, .int .i64 R2, .int .i64 N2] 77)).alloc (.cells #[.int .i64 0, .int .i64 0, .int .i64 0, .int .i64 0, .int .i64 0, .string ⟨#[]⟩, .bool false, .int .i64 0, .int .i64 0] 77)) := ((Keeps.refl _ _).alloc _).alloc _
  have hEw := hE.no kw
  have zW : ((w.alloc (.cells #[.int .i64 13, .int .i64 R, .int .i64 N, .int .i64 p, .int .i64 n, .string ⟨tx.toArray⟩, .bool false, .int .i64 R2, .int .i64 N2] 77)).alloc (.cells #[.int .i64 0, .int .i64 0, .int .i64 0, .int .i64 0, .int .i64 0, .string ⟨#[]⟩, .bool false, .int .i64 0, .int .i64 0] 77)).heap.size = w.heap.size + 2 := by simp
  go_enter Tryz.func73, Tryz.ntmps73
  go_wp2_with fail
  generalize (w.alloc (.cells #[.int .i64 13, .int .i64 R, .int .i64 N, .int .i64 p, .int .i64 n, .string ⟨tx.toArray⟩, .bool false, .int .i64 R2, .int .i64 N2] 77)).alloc (.cells #[.int .i64 0, .int .i64 0, .int .i64 0, .int .i64 0, .int .i64 0, .string ⟨#[]⟩, .bool false, .int .i64 0, .int .i64 0] 77) = W0 at a0 a1 kw hEw zW ⊢
  refine (cS _ hEw).mono ?_
  rintro e w1 ⟨rfl, k1⟩
  have b0 := k1.heap a0 id
  have b1 := k1.heap a1 id
  have K1 := kw.trans k1
  have z1 : w.heap.size + 2 ≤ w1.heap.size := by have := k1.size; omega
  have hE1 := hE.no K1
  have c0 := Lib.cell_of_heap b0
  have ne1 : ¬ w.heap.size = w1.heap.size := by omega
  have ne2 : ¬ w.heap.size + 1 = w1.heap.size := by omega
  have lt1 : w.heap.size < w1.heap.size := by omega
  have lt2 : w.heap.size + 1 < w1.heap.size := by omega
  clear a0 a1 kw hEw zW cS k1
  have cS2 : ∀ W, Env W → ∀ d os, Calls Tryz.prog 115 #[.agg #[.int .i64 R2, .int .i64 N2]] (Sort.grow (redrawn W d) os) fun e w'' => e = .returned (.string ⟨(Off.showId ⟨R2, N2⟩).toArray⟩) ∧ ∃ q : Regrown, w'' = Sort.grow (redrawn W q.d) q.os :=
    fun W h d os => calls_regrown (refShow_any R2 N2 _ (h.regrown d os))
  have lS2 := showId_len ⟨R2, N2⟩ hJ1 hJ2
  have m0 : ¬ 9223372036854775807 < 12 + sh.length := by omega
  have m1 : ¬ 9223372036854775807 < 12 + sh.length + 1 := by omega
  have m2 : ¬ 9223372036854775807 < 12 + sh.length + 1 + (Off.showId ⟨R2, N2⟩).length := by omega
  go_wp2
  have d0 : (w1.alloc (.cells #[.int .i64 13, .int .i64 R, .int .i64 N, .int .i64 0, .int .i64 0, .string ⟨#[]⟩, .bool false, .int .i64 R2, .int .i64 N2] 77)).heap[w.heap.size]? = _ := heap_alloc_keep b0 _
  have d1 : (w1.alloc (.cells #[.int .i64 13, .int .i64 R, .int .i64 N, .int .i64 0, .int .i64 0, .string ⟨#[]⟩, .bool false, .int .i64 R2, .int .i64 N2] 77)).heap[w.heap.size + 1]? = _ := heap_alloc_keep b1 _
  have d2 : (w1.alloc (.cells #[.int .i64 13, .int .i64 R, .int .i64 N, .int .i64 0, .int .i64 0, .string ⟨#[]⟩, .bool false, .int .i64 R2, .int .i64 N2] 77)).heap[w1.heap.size]? = _ := heap_alloc_new w1 _
  have KW : Keeps No w (w1.alloc (.cells #[.int .i64 13, .int .i64 R, .int .i64 N, .int .i64 0, .int .i64 0, .string ⟨#[]⟩, .bool false, .int .i64 R2, .int .i64 N2] 77)) := K1.alloc _
  have hEW := hE1.alloc (.cells #[.int .i64 13, .int .i64 R, .int .i64 N, .int .i64 0, .int .i64 0, .string ⟨#[]⟩, .bool false, .int .i64 R2, .int .i64 N2] 77)
  generalize w1.alloc (.cells #[.int .i64 13, .int .i64 R, .int .i64 N, .int .i64 0, .int .i64 0, .string ⟨#[]⟩, .bool false, .int .i64 R2, .int .i64 N2] 77) = WW at d0 d1 d2 KW hEW ⊢
  have hB := Lib.cell_of_heap d0
  have hT := Lib.cell_of_heap d2
  have x0 : ∀ d os, (Sort.grow (redrawn WW d) os).cell? ⟨w.heap.size, 0, none⟩ = some (.int .i64 13) := cell_regrown (hB 0)
  have x1 : ∀ d os, (Sort.grow (redrawn WW d) os).cell? ⟨w.heap.size, 1, none⟩ = some (.int .i64 R) := cell_regrown (hB 1)
  have x2 : ∀ d os, (Sort.grow (redrawn WW d) os).cell? ⟨w.heap.size, 2, none⟩ = some (.int .i64 N) := cell_regrown (hB 2)
  have x3 : ∀ d os, (Sort.grow (redrawn WW d) os).cell? ⟨w.heap.size, 3, none⟩ = some (.int .i64 p) := cell_regrown (hB 3)
  have x4 : ∀ d os, (Sort.grow (redrawn WW d) os).cell? ⟨w.heap.size, 4, none⟩ = some (.int .i64 n) := cell_regrown (hB 4)
  have x5 : ∀ d os, (Sort.grow (redrawn WW d) os).cell? ⟨w.heap.size, 5, none⟩ = some (.string ⟨tx.toArray⟩) := cell_regrown (hB 5)
  have x6 : ∀ d os, (Sort.grow (redrawn WW d) os).cell? ⟨w.heap.size, 6, none⟩ = some (.bool false) := cell_regrown (hB 6)
  have x7 : ∀ d os, (Sort.grow (redrawn WW d) os).cell? ⟨w.heap.size, 7, none⟩ = some (.int .i64 R2) := cell_regrown (hB 7)
  have x8 : ∀ d os, (Sort.grow (redrawn WW d) os).cell? ⟨w.heap.size, 8, none⟩ = some (.int .i64 N2) := cell_regrown (hB 8)
  have t0 : ∀ d os, (Sort.grow (redrawn WW d) os).cell? ⟨w1.heap.size, 0, none⟩ = some (.int .i64 13) := cell_regrown (hT 0)
  have t1 : ∀ d os, (Sort.grow (redrawn WW d) os).cell? ⟨w1.heap.size, 1, none⟩ = some (.int .i64 R) := cell_regrown (hT 1)
  have t2 : ∀ d os, (Sort.grow (redrawn WW d) os).cell? ⟨w1.heap.size, 2, none⟩ = some (.int .i64 N) := cell_regrown (hT 2)
  have t3 : ∀ d os, (Sort.grow (redrawn WW d) os).cell? ⟨w1.heap.size, 3, none⟩ = some (.int .i64 0) := cell_regrown (hT 3)
  have t4 : ∀ d os, (Sort.grow (redrawn WW d) os).cell? ⟨w1.heap.size, 4, none⟩ = some (.int .i64 0) := cell_regrown (hT 4)
  have t5 : ∀ d os, (Sort.grow (redrawn WW d) os).cell? ⟨w1.heap.size, 5, none⟩ = some (.string ⟨#[]⟩) := cell_regrown (hT 5)
  have t6 : ∀ d os, (Sort.grow (redrawn WW d) os).cell? ⟨w1.heap.size, 6, none⟩ = some (.bool false) := cell_regrown (hT 6)
  have t7 : ∀ d os, (Sort.grow (redrawn WW d) os).cell? ⟨w1.heap.size, 7, none⟩ = some (.int .i64 R2) := cell_regrown (hT 7)
  have t8 : ∀ d os, (Sort.grow (redrawn WW d) os).cell? ⟨w1.heap.size, 8, none⟩ = some (.int .i64 N2) := cell_regrown (hT 8)
  clear hB hT c0 b0 b1
  refine wp_region_grown_tail 11 (by kernel_rfl) (by kernel_rfl) ?_
  simp only [List.take_succ_cons, List.take_zero, List.drop_succ_cons, List.drop_zero]
  repeat (quiet_step (exact cS2 _ hEW _ _))
  refine wpQuiet_nil ?_
  intro _ hw'
  obtain ⟨⟨dq, osq⟩, hw''⟩ := hw'
  subst hw''
  have kq : Keeps No WW (Sort.grow (redrawn WW dq) osq) := keeps_regrown WW dq osq
  clear x0 t0 x1 t1 x2 t2 x3 t3 x4 t4 x5 t5 x6 t6 x7 t7 x8 t8
  generalize Sort.grow (redrawn WW dq) osq = W9 at kq ⊢
  have y1 := kq.heap d1 id
  have g1 := Lib.cell_of_heap y1
  have f1 := Lib.frozen_of_heap y1
  have K9 := KW.trans kq
  go_wp2
  have v9 := heap_fill9 y1 (.int .i64 13) (.int .i64 R) (.int .i64 N) (.int .i64 0) (.int .i64 0) (.string ⟨#[]⟩) (.bool false) (.int .i64 R2) (.int .i64 N2)
  refine bodyPost_ret (res_rcmd v9 rfl rfl) rfl ?_
  refine RCmdPost.mk (u := ByteArray.mk #[109, 111, 118, 101, 32, 98, 101, 104, 105, 110, 100, 32] ++ ByteArray.mk (List.toArray (sh)) ++ ByteArray.mk #[32] ++ ByteArray.mk (List.toArray (Off.showId ⟨R2, N2⟩))) (d := ⟨13, ⟨R, N⟩, 0, 0, [], false, ⟨R2, N2⟩⟩) rfl ?_ rfl (Keeps.fill9 K9 (Nat.le_add_right _ 1) _ _ _ _ _ _ _ _ _)
  rw [bytes_app, bytes_app, bytes_app]
  refine congrArg ByteArray.mk ?_
  apply Array.ext'
  show _ = [109, 111, 118, 101] ++ 32 :: ([98, 101, 104, 105, 110, 100] ++ 32 :: (Off.showId ⟨R, N⟩ ++ 32 :: (Off.showId ⟨R2, N2⟩)))
  rw [Hsh.out]
  simp

set_option maxRecDepth 100000 in
set_option maxHeartbeats 4000000 in
theorem rcmd_fold_true (R N p n : Int) (tx : List UInt8) (R2 N2 : Int) (w : World) (hE : Env w) (hF : CmdFits ⟨12, ⟨R, N⟩, p, n, tx, true, ⟨R2, N2⟩⟩) :
    Calls Tryz.prog 73 #[cmdV ⟨12, ⟨R, N⟩, p, n, tx, true, ⟨R2, N2⟩⟩] w (RCmdPost (Off.joinW (Off.cmdWords ⟨12, ⟨R, N⟩, p, n, tx, true, ⟨R2, N2⟩⟩)) (Off.cmdTold ⟨12, ⟨R, N⟩, p, n, tx, true, ⟨R2, N2⟩⟩) w) := by
  have hz := hE.size
  obtain ⟨hI1, hI2, hJ1, hJ2, hp, hn, ht⟩ := hF
  simp only at hI1 hI2 hJ1 hJ2 hp hn ht
  have cS := fun w1 h => refShow_any R N w1 h
  have lS := showId_len ⟨R, N⟩ hI1 hI2
  generalize hsh : Off.showId ⟨R, N⟩ = sh at cS lS
  have Hsh := Lib.hid hsh
  clear hsh
  obtain ⟨a0, a1⟩ := two_boxes w (.cells #[.int .i64 12, .int .i64 R, .int .i64 N, .int .i64 p, .int .i64 n, .string ⟨tx.toArray⟩, .bool true, .int .i64 R2, .int .i64 N2] 77) (.cells #[.int .i64 0, .int .i64 0, .int .i64 0, .int .i64 0, .int .i64 0, .string ⟨#[]⟩, .bool false, .int .i64 0, .int .i64 0] 77)
  have kw : Keeps No w ((w.alloc (.cells #[.int .i64 12, .int .i64 R, .int .i64 N, .int .i64 p, .int .i64 n, .string ⟨tx.toArray⟩, .bool true, .int .i64 R2, .int .i64 N2] 77)).alloc (.cells #[.int .i64 0, .int .i64 0, .int .i64 0, .int .i64 0, .int .i64 0, .string ⟨#[]⟩, .bool false, .int .i64 0, .int .i64 0] 77)) := ((Keeps.refl _ _).alloc _).alloc _
  have hEw := hE.no kw
  have zW : ((w.alloc (.cells #[.int .i64 12, .int .i64 R, .int .i64 N, .int .i64 p, .int .i64 n, .string ⟨tx.toArray⟩, .bool true, .int .i64 R2, .int .i64 N2] 77)).alloc (.cells #[.int .i64 0, .int .i64 0, .int .i64 0, .int .i64 0, .int .i64 0, .string ⟨#[]⟩, .bool false, .int .i64 0, .int .i64 0] 77)).heap.size = w.heap.size + 2 := by simp
  go_enter Tryz.func73, Tryz.ntmps73
  go_wp2_with fail
  generalize (w.alloc (.cells #[.int .i64 12, .int .i64 R, .int .i64 N, .int .i64 p, .int .i64 n, .string ⟨tx.toArray⟩, .bool true, .int .i64 R2, .int .i64 N2] 77)).alloc (.cells #[.int .i64 0, .int .i64 0, .int .i64 0, .int .i64 0, .int .i64 0, .string ⟨#[]⟩, .bool false, .int .i64 0, .int .i64 0] 77) = W0 at a0 a1 kw hEw zW ⊢
  refine (cS _ hEw).mono ?_
  rintro e w1 ⟨rfl, k1⟩
  have b0 := k1.heap a0 id
  have b1 := k1.heap a1 id
  have K1 := kw.trans k1
  have z1 : w.heap.size + 2 ≤ w1.heap.size := by have := k1.size; omega
  have hE1 := hE.no K1
  have c0 := Lib.cell_of_heap b0
  have ne1 : ¬ w.heap.size = w1.heap.size := by omega
  have ne2 : ¬ w.heap.size + 1 = w1.heap.size := by omega
  have lt1 : w.heap.size < w1.heap.size := by omega
  have lt2 : w.heap.size + 1 < w1.heap.size := by omega
  clear a0 a1 kw hEw zW cS k1
  have cW : ∀ W d os, Calls Tryz.prog 112 #[.agg #[.int .i64 12, .int .i64 R, .int .i64 N, .int .i64 p, .int .i64 n, .string ⟨tx.toArray⟩, .bool true, .int .i64 R2, .int .i64 N2]] (Sort.grow (redrawn W d) os) fun e w'' => e = .returned (.string ⟨(nameW 12 true).toArray⟩) ∧ ∃ q : Regrown, w'' = Sort.grow (redrawn W q.d) q.os :=
    fun W d os => calls_regrown (refNames_any ⟨12, ⟨R, N⟩, p, n, tx, true, ⟨R2, N2⟩⟩ _)
  have lW := nameW_len 12 true
  have hpw := Lib.hid (plain_words 12 R N p n tx true R2 N2 ⟨by omega, by omega⟩)
  have hpt := Lib.hid (plain_told 12 R N p n tx true R2 N2 ⟨by omega, by omega⟩)
  generalize nameW 12 true = nw at cW lW hpw
  have m0 : ¬ 9223372036854775807 < nw.length + 1 := by omega
  have m1 : ¬ 9223372036854775807 < nw.length + 1 + sh.length := by omega
  go_wp2
  have d0 : (w1.alloc (.cells #[.int .i64 12, .int .i64 R, .int .i64 N, .int .i64 0, .int .i64 0, .string ⟨#[]⟩, .bool true, .int .i64 0, .int .i64 0] 77)).heap[w.heap.size]? = _ := heap_alloc_keep b0 _
  have d1 : (w1.alloc (.cells #[.int .i64 12, .int .i64 R, .int .i64 N, .int .i64 0, .int .i64 0, .string ⟨#[]⟩, .bool true, .int .i64 0, .int .i64 0] 77)).heap[w.heap.size + 1]? = _ := heap_alloc_keep b1 _
  have d2 : (w1.alloc (.cells #[.int .i64 12, .int .i64 R, .int .i64 N, .int .i64 0, .int .i64 0, .string ⟨#[]⟩, .bool true, .int .i64 0, .int .i64 0] 77)).heap[w1.heap.size]? = _ := heap_alloc_new w1 _
  have KW : Keeps No w (w1.alloc (.cells #[.int .i64 12, .int .i64 R, .int .i64 N, .int .i64 0, .int .i64 0, .string ⟨#[]⟩, .bool true, .int .i64 0, .int .i64 0] 77)) := K1.alloc _
  have hEW := hE1.alloc (.cells #[.int .i64 12, .int .i64 R, .int .i64 N, .int .i64 0, .int .i64 0, .string ⟨#[]⟩, .bool true, .int .i64 0, .int .i64 0] 77)
  generalize w1.alloc (.cells #[.int .i64 12, .int .i64 R, .int .i64 N, .int .i64 0, .int .i64 0, .string ⟨#[]⟩, .bool true, .int .i64 0, .int .i64 0] 77) = WW at d0 d1 d2 KW hEW ⊢
  have hB := Lib.cell_of_heap d0
  have hT := Lib.cell_of_heap d2
  have x0 : ∀ d os, (Sort.grow (redrawn WW d) os).cell? ⟨w.heap.size, 0, none⟩ = some (.int .i64 12) := cell_regrown (hB 0)
  have x1 : ∀ d os, (Sort.grow (redrawn WW d) os).cell? ⟨w.heap.size, 1, none⟩ = some (.int .i64 R) := cell_regrown (hB 1)
  have x2 : ∀ d os, (Sort.grow (redrawn WW d) os).cell? ⟨w.heap.size, 2, none⟩ = some (.int .i64 N) := cell_regrown (hB 2)
  have x3 : ∀ d os, (Sort.grow (redrawn WW d) os).cell? ⟨w.heap.size, 3, none⟩ = some (.int .i64 p) := cell_regrown (hB 3)
  have x4 : ∀ d os, (Sort.grow (redrawn WW d) os).cell? ⟨w.heap.size, 4, none⟩ = some (.int .i64 n) := cell_regrown (hB 4)
  have x5 : ∀ d os, (Sort.grow (redrawn WW d) os).cell? ⟨w.heap.size, 5, none⟩ = some (.string ⟨tx.toArray⟩) := cell_regrown (hB 5)
  have x6 : ∀ d os, (Sort.grow (redrawn WW d) os).cell? ⟨w.heap.size, 6, none⟩ = some (.bool true) := cell_regrown (hB 6)
  have x7 : ∀ d os, (Sort.grow (redrawn WW d) os).cell? ⟨w.heap.size, 7, none⟩ = some (.int .i64 R2) := cell_regrown (hB 7)
  have x8 : ∀ d os, (Sort.grow (redrawn WW d) os).cell? ⟨w.heap.size, 8, none⟩ = some (.int .i64 N2) := cell_regrown (hB 8)
  have t0 : ∀ d os, (Sort.grow (redrawn WW d) os).cell? ⟨w1.heap.size, 0, none⟩ = some (.int .i64 12) := cell_regrown (hT 0)
  have t1 : ∀ d os, (Sort.grow (redrawn WW d) os).cell? ⟨w1.heap.size, 1, none⟩ = some (.int .i64 R) := cell_regrown (hT 1)
  have t2 : ∀ d os, (Sort.grow (redrawn WW d) os).cell? ⟨w1.heap.size, 2, none⟩ = some (.int .i64 N) := cell_regrown (hT 2)
  have t3 : ∀ d os, (Sort.grow (redrawn WW d) os).cell? ⟨w1.heap.size, 3, none⟩ = some (.int .i64 0) := cell_regrown (hT 3)
  have t4 : ∀ d os, (Sort.grow (redrawn WW d) os).cell? ⟨w1.heap.size, 4, none⟩ = some (.int .i64 0) := cell_regrown (hT 4)
  have t5 : ∀ d os, (Sort.grow (redrawn WW d) os).cell? ⟨w1.heap.size, 5, none⟩ = some (.string ⟨#[]⟩) := cell_regrown (hT 5)
  have t6 : ∀ d os, (Sort.grow (redrawn WW d) os).cell? ⟨w1.heap.size, 6, none⟩ = some (.bool true) := cell_regrown (hT 6)
  have t7 : ∀ d os, (Sort.grow (redrawn WW d) os).cell? ⟨w1.heap.size, 7, none⟩ = some (.int .i64 0) := cell_regrown (hT 7)
  have t8 : ∀ d os, (Sort.grow (redrawn WW d) os).cell? ⟨w1.heap.size, 8, none⟩ = some (.int .i64 0) := cell_regrown (hT 8)
  clear hB hT c0 b0 b1
  refine wp_region_grown_tail 7 (by kernel_rfl) (by kernel_rfl) ?_
  simp only [List.take_succ_cons, List.take_zero, List.drop_succ_cons, List.drop_zero]
  repeat (quiet_step (exact cW _ _ _))
  refine wpQuiet_nil ?_
  intro _ hw'
  obtain ⟨⟨dq, osq⟩, hw''⟩ := hw'
  subst hw''
  have kq : Keeps No WW (Sort.grow (redrawn WW dq) osq) := keeps_regrown WW dq osq
  clear x0 t0 x1 t1 x2 t2 x3 t3 x4 t4 x5 t5 x6 t6 x7 t7 x8 t8
  generalize Sort.grow (redrawn WW dq) osq = W9 at kq ⊢
  have y1 := kq.heap d1 id
  have g1 := Lib.cell_of_heap y1
  have f1 := Lib.frozen_of_heap y1
  have K9 := KW.trans kq
  go_wp2
  have v9 := heap_fill9 y1 (.int .i64 12) (.int .i64 R) (.int .i64 N) (.int .i64 0) (.int .i64 0) (.string ⟨#[]⟩) (.bool true) (.int .i64 0) (.int .i64 0)
  refine bodyPost_ret (res_rcmd v9 rfl rfl) rfl ?_
  refine RCmdPost.mk (u := ByteArray.mk (List.toArray (nw)) ++ ByteArray.mk #[32] ++ ByteArray.mk (List.toArray (sh))) (d := ⟨12, ⟨R, N⟩, 0, 0, [], true, ⟨0, 0⟩⟩) rfl ?_ (by rw [← hpt.out]; rfl) (Keeps.fill9 K9 (Nat.le_add_right _ 1) _ _ _ _ _ _ _ _ _)
  rw [bytes_app, bytes_app]
  refine congrArg ByteArray.mk ?_
  apply Array.ext'
  rw [hpw.out]
  rw [Hsh.out]
  simp

set_option maxRecDepth 100000 in
set_option maxHeartbeats 4000000 in
theorem rcmd_plain_true (k R N p n : Int) (tx : List UInt8) (R2 N2 : Int) (w : World) (hE : Env w) (hF : CmdFits ⟨k, ⟨R, N⟩, p, n, tx, true, ⟨R2, N2⟩⟩) (hk : 5 ≤ k ∧ k ≤ 11) :
    Calls Tryz.prog 73 #[cmdV ⟨k, ⟨R, N⟩, p, n, tx, true, ⟨R2, N2⟩⟩] w (RCmdPost (Off.joinW (Off.cmdWords ⟨k, ⟨R, N⟩, p, n, tx, true, ⟨R2, N2⟩⟩)) (Off.cmdTold ⟨k, ⟨R, N⟩, p, n, tx, true, ⟨R2, N2⟩⟩) w) := by
  have hz := hE.size
  obtain ⟨hI1, hI2, hJ1, hJ2, hp, hn, ht⟩ := hF
  simp only at hI1 hI2 hJ1 hJ2 hp hn ht
  have cS := fun w1 h => refShow_any R N w1 h
  have lS := showId_len ⟨R, N⟩ hI1 hI2
  generalize hsh : Off.showId ⟨R, N⟩ = sh at cS lS
  have Hsh := Lib.hid hsh
  clear hsh
  obtain ⟨a0, a1⟩ := two_boxes w (.cells #[.int .i64 k, .int .i64 R, .int .i64 N, .int .i64 p, .int .i64 n, .string ⟨tx.toArray⟩, .bool true, .int .i64 R2, .int .i64 N2] 77) (.cells #[.int .i64 0, .int .i64 0, .int .i64 0, .int .i64 0, .int .i64 0, .string ⟨#[]⟩, .bool false, .int .i64 0, .int .i64 0] 77)
  have kw : Keeps No w ((w.alloc (.cells #[.int .i64 k, .int .i64 R, .int .i64 N, .int .i64 p, .int .i64 n, .string ⟨tx.toArray⟩, .bool true, .int .i64 R2, .int .i64 N2] 77)).alloc (.cells #[.int .i64 0, .int .i64 0, .int .i64 0, .int .i64 0, .int .i64 0, .string ⟨#[]⟩, .bool false, .int .i64 0, .int .i64 0] 77)) := ((Keeps.refl _ _).alloc _).alloc _
  have hEw := hE.no kw
  have zW : ((w.alloc (.cells #[.int .i64 k, .int .i64 R, .int .i64 N, .int .i64 p, .int .i64 n, .string ⟨tx.toArray⟩, .bool true, .int .i64 R2, .int .i64 N2] 77)).alloc (.cells #[.int .i64 0, .int .i64 0, .int .i64 0, .int .i64 0, .int .i64 0, .string ⟨#[]⟩, .bool false, .int .i64 0, .int .i64 0] 77)).heap.size = w.heap.size + 2 := by simp
  go_enter Tryz.func73, Tryz.ntmps73
  go_wp2_with fail
  generalize (w.alloc (.cells #[.int .i64 k, .int .i64 R, .int .i64 N, .int .i64 p, .int .i64 n, .string ⟨tx.toArray⟩, .bool true, .int .i64 R2, .int .i64 N2] 77)).alloc (.cells #[.int .i64 0, .int .i64 0, .int .i64 0, .int .i64 0, .int .i64 0, .string ⟨#[]⟩, .bool false, .int .i64 0, .int .i64 0] 77) = W0 at a0 a1 kw hEw zW ⊢
  refine (cS _ hEw).mono ?_
  rintro e w1 ⟨rfl, k1⟩
  have b0 := k1.heap a0 id
  have b1 := k1.heap a1 id
  have K1 := kw.trans k1
  have z1 : w.heap.size + 2 ≤ w1.heap.size := by have := k1.size; omega
  have hE1 := hE.no K1
  have c0 := Lib.cell_of_heap b0
  have ne1 : ¬ w.heap.size = w1.heap.size := by omega
  have ne2 : ¬ w.heap.size + 1 = w1.heap.size := by omega
  have lt1 : w.heap.size < w1.heap.size := by omega
  have lt2 : w.heap.size + 1 < w1.heap.size := by omega
  clear a0 a1 kw hEw zW cS k1
  have cW : ∀ W d os, Calls Tryz.prog 112 #[.agg #[.int .i64 k, .int .i64 R, .int .i64 N, .int .i64 p, .int .i64 n, .string ⟨tx.toArray⟩, .bool true, .int .i64 R2, .int .i64 N2]] (Sort.grow (redrawn W d) os) fun e w'' => e = .returned (.string ⟨(nameW k true).toArray⟩) ∧ ∃ q : Regrown, w'' = Sort.grow (redrawn W q.d) q.os :=
    fun W d os => calls_regrown (refNames_any ⟨k, ⟨R, N⟩, p, n, tx, true, ⟨R2, N2⟩⟩ _)
  have lW := nameW_len k true
  have hpw := Lib.hid (plain_words k R N p n tx true R2 N2 ⟨hk.1, by omega⟩)
  have hpt := Lib.hid (plain_none k R N p n tx true R2 N2 hk)
  generalize nameW k true = nw at cW lW hpw
  have g1 : (k == 1) = false := by rw [beq_eq_false_iff_ne]; omega
  have g2 : (k == 2) = false := by rw [beq_eq_false_iff_ne]; omega
  have g3 : (k == 3) = false := by rw [beq_eq_false_iff_ne]; omega
  have g4 : (k == 4) = false := by rw [beq_eq_false_iff_ne]; omega
  have g13 : (k == 13) = false := by rw [beq_eq_false_iff_ne]; omega
  have g14 : (k == 14) = false := by rw [beq_eq_false_iff_ne]; omega
  have g12 : (k == 12) = false := by rw [beq_eq_false_iff_ne]; omega
  have m0 : ¬ 9223372036854775807 < nw.length + 1 := by omega
  have m1 : ¬ 9223372036854775807 < nw.length + 1 + sh.length := by omega
  go_wp2
  have d0 : (w1.alloc (.cells #[.int .i64 k, .int .i64 R, .int .i64 N, .int .i64 0, .int .i64 0, .string ⟨#[]⟩, .bool false, .int .i64 0, .int .i64 0] 77)).heap[w.heap.size]? = _ := heap_alloc_keep b0 _
  have d1 : (w1.alloc (.cells #[.int .i64 k, .int .i64 R, .int .i64 N, .int .i64 0, .int .i64 0, .string ⟨#[]⟩, .bool false, .int .i64 0, .int .i64 0] 77)).heap[w.heap.size + 1]? = _ := heap_alloc_keep b1 _
  have d2 : (w1.alloc (.cells #[.int .i64 k, .int .i64 R, .int .i64 N, .int .i64 0, .int .i64 0, .string ⟨#[]⟩, .bool false, .int .i64 0, .int .i64 0] 77)).heap[w1.heap.size]? = _ := heap_alloc_new w1 _
  have KW : Keeps No w (w1.alloc (.cells #[.int .i64 k, .int .i64 R, .int .i64 N, .int .i64 0, .int .i64 0, .string ⟨#[]⟩, .bool false, .int .i64 0, .int .i64 0] 77)) := K1.alloc _
  have hEW := hE1.alloc (.cells #[.int .i64 k, .int .i64 R, .int .i64 N, .int .i64 0, .int .i64 0, .string ⟨#[]⟩, .bool false, .int .i64 0, .int .i64 0] 77)
  generalize w1.alloc (.cells #[.int .i64 k, .int .i64 R, .int .i64 N, .int .i64 0, .int .i64 0, .string ⟨#[]⟩, .bool false, .int .i64 0, .int .i64 0] 77) = WW at d0 d1 d2 KW hEW ⊢
  have hB := Lib.cell_of_heap d0
  have hT := Lib.cell_of_heap d2
  have x0 : ∀ d os, (Sort.grow (redrawn WW d) os).cell? ⟨w.heap.size, 0, none⟩ = some (.int .i64 k) := cell_regrown (hB 0)
  have x1 : ∀ d os, (Sort.grow (redrawn WW d) os).cell? ⟨w.heap.size, 1, none⟩ = some (.int .i64 R) := cell_regrown (hB 1)
  have x2 : ∀ d os, (Sort.grow (redrawn WW d) os).cell? ⟨w.heap.size, 2, none⟩ = some (.int .i64 N) := cell_regrown (hB 2)
  have x3 : ∀ d os, (Sort.grow (redrawn WW d) os).cell? ⟨w.heap.size, 3, none⟩ = some (.int .i64 p) := cell_regrown (hB 3)
  have x4 : ∀ d os, (Sort.grow (redrawn WW d) os).cell? ⟨w.heap.size, 4, none⟩ = some (.int .i64 n) := cell_regrown (hB 4)
  have x5 : ∀ d os, (Sort.grow (redrawn WW d) os).cell? ⟨w.heap.size, 5, none⟩ = some (.string ⟨tx.toArray⟩) := cell_regrown (hB 5)
  have x6 : ∀ d os, (Sort.grow (redrawn WW d) os).cell? ⟨w.heap.size, 6, none⟩ = some (.bool true) := cell_regrown (hB 6)
  have x7 : ∀ d os, (Sort.grow (redrawn WW d) os).cell? ⟨w.heap.size, 7, none⟩ = some (.int .i64 R2) := cell_regrown (hB 7)
  have x8 : ∀ d os, (Sort.grow (redrawn WW d) os).cell? ⟨w.heap.size, 8, none⟩ = some (.int .i64 N2) := cell_regrown (hB 8)
  have t0 : ∀ d os, (Sort.grow (redrawn WW d) os).cell? ⟨w1.heap.size, 0, none⟩ = some (.int .i64 k) := cell_regrown (hT 0)
  have t1 : ∀ d os, (Sort.grow (redrawn WW d) os).cell? ⟨w1.heap.size, 1, none⟩ = some (.int .i64 R) := cell_regrown (hT 1)
  have t2 : ∀ d os, (Sort.grow (redrawn WW d) os).cell? ⟨w1.heap.size, 2, none⟩ = some (.int .i64 N) := cell_regrown (hT 2)
  have t3 : ∀ d os, (Sort.grow (redrawn WW d) os).cell? ⟨w1.heap.size, 3, none⟩ = some (.int .i64 0) := cell_regrown (hT 3)
  have t4 : ∀ d os, (Sort.grow (redrawn WW d) os).cell? ⟨w1.heap.size, 4, none⟩ = some (.int .i64 0) := cell_regrown (hT 4)
  have t5 : ∀ d os, (Sort.grow (redrawn WW d) os).cell? ⟨w1.heap.size, 5, none⟩ = some (.string ⟨#[]⟩) := cell_regrown (hT 5)
  have t6 : ∀ d os, (Sort.grow (redrawn WW d) os).cell? ⟨w1.heap.size, 6, none⟩ = some (.bool false) := cell_regrown (hT 6)
  have t7 : ∀ d os, (Sort.grow (redrawn WW d) os).cell? ⟨w1.heap.size, 7, none⟩ = some (.int .i64 0) := cell_regrown (hT 7)
  have t8 : ∀ d os, (Sort.grow (redrawn WW d) os).cell? ⟨w1.heap.size, 8, none⟩ = some (.int .i64 0) := cell_regrown (hT 8)
  clear hB hT c0 b0 b1
  refine wp_region_grown_tail 7 (by kernel_rfl) (by kernel_rfl) ?_
  simp only [List.take_succ_cons, List.take_zero, List.drop_succ_cons, List.drop_zero]
  repeat (quiet_step (exact cW _ _ _))
  refine wpQuiet_nil ?_
  intro _ hw'
  obtain ⟨⟨dq, osq⟩, hw''⟩ := hw'
  subst hw''
  have kq : Keeps No WW (Sort.grow (redrawn WW dq) osq) := keeps_regrown WW dq osq
  clear x0 t0 x1 t1 x2 t2 x3 t3 x4 t4 x5 t5 x6 t6 x7 t7 x8 t8
  generalize Sort.grow (redrawn WW dq) osq = W9 at kq ⊢
  have y1 := kq.heap d1 id
  have g1 := Lib.cell_of_heap y1
  have f1 := Lib.frozen_of_heap y1
  have K9 := KW.trans kq
  go_wp2
  have v9 := heap_fill9 y1 (.int .i64 k) (.int .i64 R) (.int .i64 N) (.int .i64 0) (.int .i64 0) (.string ⟨#[]⟩) (.bool false) (.int .i64 0) (.int .i64 0)
  refine bodyPost_ret (res_rcmd v9 rfl rfl) rfl ?_
  refine RCmdPost.mk (u := ByteArray.mk (List.toArray (nw)) ++ ByteArray.mk #[32] ++ ByteArray.mk (List.toArray (sh))) (d := ⟨k, ⟨R, N⟩, 0, 0, [], false, ⟨0, 0⟩⟩) rfl ?_ hpt.out (Keeps.fill9 K9 (Nat.le_add_right _ 1) _ _ _ _ _ _ _ _ _)
  rw [bytes_app, bytes_app]
  refine congrArg ByteArray.mk ?_
  apply Array.ext'
  rw [hpw.out]
  rw [Hsh.out]
  simp

set_option maxRecDepth 100000 in
set_option maxHeartbeats 4000000 in
theorem rcmd_fold_false (R N p n : Int) (tx : List UInt8) (R2 N2 : Int) (w : World) (hE : Env w) (hF : CmdFits ⟨12, ⟨R, N⟩, p, n, tx, false, ⟨R2, N2⟩⟩) :
    Calls Tryz.prog 73 #[cmdV ⟨12, ⟨R, N⟩, p, n, tx, false, ⟨R2, N2⟩⟩] w (RCmdPost (Off.joinW (Off.cmdWords ⟨12, ⟨R, N⟩, p, n, tx, false, ⟨R2, N2⟩⟩)) (Off.cmdTold ⟨12, ⟨R, N⟩, p, n, tx, false, ⟨R2, N2⟩⟩) w) := by
  have hz := hE.size
  obtain ⟨hI1, hI2, hJ1, hJ2, hp, hn, ht⟩ := hF
  simp only at hI1 hI2 hJ1 hJ2 hp hn ht
  have cS := fun w1 h => refShow_any R N w1 h
  have lS := showId_len ⟨R, N⟩ hI1 hI2
  generalize hsh : Off.showId ⟨R, N⟩ = sh at cS lS
  have Hsh := Lib.hid hsh
  clear hsh
  obtain ⟨a0, a1⟩ := two_boxes w (.cells #[.int .i64 12, .int .i64 R, .int .i64 N, .int .i64 p, .int .i64 n, .string ⟨tx.toArray⟩, .bool false, .int .i64 R2, .int .i64 N2] 77) (.cells #[.int .i64 0, .int .i64 0, .int .i64 0, .int .i64 0, .int .i64 0, .string ⟨#[]⟩, .bool false, .int .i64 0, .int .i64 0] 77)
  have kw : Keeps No w ((w.alloc (.cells #[.int .i64 12, .int .i64 R, .int .i64 N, .int .i64 p, .int .i64 n, .string ⟨tx.toArray⟩, .bool false, .int .i64 R2, .int .i64 N2] 77)).alloc (.cells #[.int .i64 0, .int .i64 0, .int .i64 0, .int .i64 0, .int .i64 0, .string ⟨#[]⟩, .bool false, .int .i64 0, .int .i64 0] 77)) := ((Keeps.refl _ _).alloc _).alloc _
  have hEw := hE.no kw
  have zW : ((w.alloc (.cells #[.int .i64 12, .int .i64 R, .int .i64 N, .int .i64 p, .int .i64 n, .string ⟨tx.toArray⟩, .bool false, .int .i64 R2, .int .i64 N2] 77)).alloc (.cells #[.int .i64 0, .int .i64 0, .int .i64 0, .int .i64 0, .int .i64 0, .string ⟨#[]⟩, .bool false, .int .i64 0, .int .i64 0] 77)).heap.size = w.heap.size + 2 := by simp
  go_enter Tryz.func73, Tryz.ntmps73
  go_wp2_with fail
  generalize (w.alloc (.cells #[.int .i64 12, .int .i64 R, .int .i64 N, .int .i64 p, .int .i64 n, .string ⟨tx.toArray⟩, .bool false, .int .i64 R2, .int .i64 N2] 77)).alloc (.cells #[.int .i64 0, .int .i64 0, .int .i64 0, .int .i64 0, .int .i64 0, .string ⟨#[]⟩, .bool false, .int .i64 0, .int .i64 0] 77) = W0 at a0 a1 kw hEw zW ⊢
  refine (cS _ hEw).mono ?_
  rintro e w1 ⟨rfl, k1⟩
  have b0 := k1.heap a0 id
  have b1 := k1.heap a1 id
  have K1 := kw.trans k1
  have z1 : w.heap.size + 2 ≤ w1.heap.size := by have := k1.size; omega
  have hE1 := hE.no K1
  have c0 := Lib.cell_of_heap b0
  have ne1 : ¬ w.heap.size = w1.heap.size := by omega
  have ne2 : ¬ w.heap.size + 1 = w1.heap.size := by omega
  have lt1 : w.heap.size < w1.heap.size := by omega
  have lt2 : w.heap.size + 1 < w1.heap.size := by omega
  clear a0 a1 kw hEw zW cS k1
  have cW : ∀ W d os, Calls Tryz.prog 112 #[.agg #[.int .i64 12, .int .i64 R, .int .i64 N, .int .i64 p, .int .i64 n, .string ⟨tx.toArray⟩, .bool false, .int .i64 R2, .int .i64 N2]] (Sort.grow (redrawn W d) os) fun e w'' => e = .returned (.string ⟨(nameW 12 false).toArray⟩) ∧ ∃ q : Regrown, w'' = Sort.grow (redrawn W q.d) q.os :=
    fun W d os => calls_regrown (refNames_any ⟨12, ⟨R, N⟩, p, n, tx, false, ⟨R2, N2⟩⟩ _)
  have lW := nameW_len 12 false
  have hpw := Lib.hid (plain_words 12 R N p n tx false R2 N2 ⟨by omega, by omega⟩)
  have hpt := Lib.hid (plain_told 12 R N p n tx false R2 N2 ⟨by omega, by omega⟩)
  generalize nameW 12 false = nw at cW lW hpw
  have m0 : ¬ 9223372036854775807 < nw.length + 1 := by omega
  have m1 : ¬ 9223372036854775807 < nw.length + 1 + sh.length := by omega
  go_wp2
  have d0 : (w1.alloc (.cells #[.int .i64 12, .int .i64 R, .int .i64 N, .int .i64 0, .int .i64 0, .string ⟨#[]⟩, .bool false, .int .i64 0, .int .i64 0] 77)).heap[w.heap.size]? = _ := heap_alloc_keep b0 _
  have d1 : (w1.alloc (.cells #[.int .i64 12, .int .i64 R, .int .i64 N, .int .i64 0, .int .i64 0, .string ⟨#[]⟩, .bool false, .int .i64 0, .int .i64 0] 77)).heap[w.heap.size + 1]? = _ := heap_alloc_keep b1 _
  have d2 : (w1.alloc (.cells #[.int .i64 12, .int .i64 R, .int .i64 N, .int .i64 0, .int .i64 0, .string ⟨#[]⟩, .bool false, .int .i64 0, .int .i64 0] 77)).heap[w1.heap.size]? = _ := heap_alloc_new w1 _
  have KW : Keeps No w (w1.alloc (.cells #[.int .i64 12, .int .i64 R, .int .i64 N, .int .i64 0, .int .i64 0, .string ⟨#[]⟩, .bool false, .int .i64 0, .int .i64 0] 77)) := K1.alloc _
  have hEW := hE1.alloc (.cells #[.int .i64 12, .int .i64 R, .int .i64 N, .int .i64 0, .int .i64 0, .string ⟨#[]⟩, .bool false, .int .i64 0, .int .i64 0] 77)
  generalize w1.alloc (.cells #[.int .i64 12, .int .i64 R, .int .i64 N, .int .i64 0, .int .i64 0, .string ⟨#[]⟩, .bool false, .int .i64 0, .int .i64 0] 77) = WW at d0 d1 d2 KW hEW ⊢
  have hB := Lib.cell_of_heap d0
  have hT := Lib.cell_of_heap d2
  have x0 : ∀ d os, (Sort.grow (redrawn WW d) os).cell? ⟨w.heap.size, 0, none⟩ = some (.int .i64 12) := cell_regrown (hB 0)
  have x1 : ∀ d os, (Sort.grow (redrawn WW d) os).cell? ⟨w.heap.size, 1, none⟩ = some (.int .i64 R) := cell_regrown (hB 1)
  have x2 : ∀ d os, (Sort.grow (redrawn WW d) os).cell? ⟨w.heap.size, 2, none⟩ = some (.int .i64 N) := cell_regrown (hB 2)
  have x3 : ∀ d os, (Sort.grow (redrawn WW d) os).cell? ⟨w.heap.size, 3, none⟩ = some (.int .i64 p) := cell_regrown (hB 3)
  have x4 : ∀ d os, (Sort.grow (redrawn WW d) os).cell? ⟨w.heap.size, 4, none⟩ = some (.int .i64 n) := cell_regrown (hB 4)
  have x5 : ∀ d os, (Sort.grow (redrawn WW d) os).cell? ⟨w.heap.size, 5, none⟩ = some (.string ⟨tx.toArray⟩) := cell_regrown (hB 5)
  have x6 : ∀ d os, (Sort.grow (redrawn WW d) os).cell? ⟨w.heap.size, 6, none⟩ = some (.bool false) := cell_regrown (hB 6)
  have x7 : ∀ d os, (Sort.grow (redrawn WW d) os).cell? ⟨w.heap.size, 7, none⟩ = some (.int .i64 R2) := cell_regrown (hB 7)
  have x8 : ∀ d os, (Sort.grow (redrawn WW d) os).cell? ⟨w.heap.size, 8, none⟩ = some (.int .i64 N2) := cell_regrown (hB 8)
  have t0 : ∀ d os, (Sort.grow (redrawn WW d) os).cell? ⟨w1.heap.size, 0, none⟩ = some (.int .i64 12) := cell_regrown (hT 0)
  have t1 : ∀ d os, (Sort.grow (redrawn WW d) os).cell? ⟨w1.heap.size, 1, none⟩ = some (.int .i64 R) := cell_regrown (hT 1)
  have t2 : ∀ d os, (Sort.grow (redrawn WW d) os).cell? ⟨w1.heap.size, 2, none⟩ = some (.int .i64 N) := cell_regrown (hT 2)
  have t3 : ∀ d os, (Sort.grow (redrawn WW d) os).cell? ⟨w1.heap.size, 3, none⟩ = some (.int .i64 0) := cell_regrown (hT 3)
  have t4 : ∀ d os, (Sort.grow (redrawn WW d) os).cell? ⟨w1.heap.size, 4, none⟩ = some (.int .i64 0) := cell_regrown (hT 4)
  have t5 : ∀ d os, (Sort.grow (redrawn WW d) os).cell? ⟨w1.heap.size, 5, none⟩ = some (.string ⟨#[]⟩) := cell_regrown (hT 5)
  have t6 : ∀ d os, (Sort.grow (redrawn WW d) os).cell? ⟨w1.heap.size, 6, none⟩ = some (.bool false) := cell_regrown (hT 6)
  have t7 : ∀ d os, (Sort.grow (redrawn WW d) os).cell? ⟨w1.heap.size, 7, none⟩ = some (.int .i64 0) := cell_regrown (hT 7)
  have t8 : ∀ d os, (Sort.grow (redrawn WW d) os).cell? ⟨w1.heap.size, 8, none⟩ = some (.int .i64 0) := cell_regrown (hT 8)
  clear hB hT c0 b0 b1
  refine wp_region_grown_tail 7 (by kernel_rfl) (by kernel_rfl) ?_
  simp only [List.take_succ_cons, List.take_zero, List.drop_succ_cons, List.drop_zero]
  repeat (quiet_step (exact cW _ _ _))
  refine wpQuiet_nil ?_
  intro _ hw'
  obtain ⟨⟨dq, osq⟩, hw''⟩ := hw'
  subst hw''
  have kq : Keeps No WW (Sort.grow (redrawn WW dq) osq) := keeps_regrown WW dq osq
  clear x0 t0 x1 t1 x2 t2 x3 t3 x4 t4 x5 t5 x6 t6 x7 t7 x8 t8
  generalize Sort.grow (redrawn WW dq) osq = W9 at kq ⊢
  have y1 := kq.heap d1 id
  have g1 := Lib.cell_of_heap y1
  have f1 := Lib.frozen_of_heap y1
  have K9 := KW.trans kq
  go_wp2
  have v9 := heap_fill9 y1 (.int .i64 12) (.int .i64 R) (.int .i64 N) (.int .i64 0) (.int .i64 0) (.string ⟨#[]⟩) (.bool false) (.int .i64 0) (.int .i64 0)
  refine bodyPost_ret (res_rcmd v9 rfl rfl) rfl ?_
  refine RCmdPost.mk (u := ByteArray.mk (List.toArray (nw)) ++ ByteArray.mk #[32] ++ ByteArray.mk (List.toArray (sh))) (d := ⟨12, ⟨R, N⟩, 0, 0, [], false, ⟨0, 0⟩⟩) rfl ?_ (by rw [← hpt.out]; rfl) (Keeps.fill9 K9 (Nat.le_add_right _ 1) _ _ _ _ _ _ _ _ _)
  rw [bytes_app, bytes_app]
  refine congrArg ByteArray.mk ?_
  apply Array.ext'
  rw [hpw.out]
  rw [Hsh.out]
  simp

set_option maxRecDepth 100000 in
set_option maxHeartbeats 4000000 in
theorem rcmd_plain_false (k R N p n : Int) (tx : List UInt8) (R2 N2 : Int) (w : World) (hE : Env w) (hF : CmdFits ⟨k, ⟨R, N⟩, p, n, tx, false, ⟨R2, N2⟩⟩) (hk : 5 ≤ k ∧ k ≤ 11) :
    Calls Tryz.prog 73 #[cmdV ⟨k, ⟨R, N⟩, p, n, tx, false, ⟨R2, N2⟩⟩] w (RCmdPost (Off.joinW (Off.cmdWords ⟨k, ⟨R, N⟩, p, n, tx, false, ⟨R2, N2⟩⟩)) (Off.cmdTold ⟨k, ⟨R, N⟩, p, n, tx, false, ⟨R2, N2⟩⟩) w) := by
  have hz := hE.size
  obtain ⟨hI1, hI2, hJ1, hJ2, hp, hn, ht⟩ := hF
  simp only at hI1 hI2 hJ1 hJ2 hp hn ht
  have cS := fun w1 h => refShow_any R N w1 h
  have lS := showId_len ⟨R, N⟩ hI1 hI2
  generalize hsh : Off.showId ⟨R, N⟩ = sh at cS lS
  have Hsh := Lib.hid hsh
  clear hsh
  obtain ⟨a0, a1⟩ := two_boxes w (.cells #[.int .i64 k, .int .i64 R, .int .i64 N, .int .i64 p, .int .i64 n, .string ⟨tx.toArray⟩, .bool false, .int .i64 R2, .int .i64 N2] 77) (.cells #[.int .i64 0, .int .i64 0, .int .i64 0, .int .i64 0, .int .i64 0, .string ⟨#[]⟩, .bool false, .int .i64 0, .int .i64 0] 77)
  have kw : Keeps No w ((w.alloc (.cells #[.int .i64 k, .int .i64 R, .int .i64 N, .int .i64 p, .int .i64 n, .string ⟨tx.toArray⟩, .bool false, .int .i64 R2, .int .i64 N2] 77)).alloc (.cells #[.int .i64 0, .int .i64 0, .int .i64 0, .int .i64 0, .int .i64 0, .string ⟨#[]⟩, .bool false, .int .i64 0, .int .i64 0] 77)) := ((Keeps.refl _ _).alloc _).alloc _
  have hEw := hE.no kw
  have zW : ((w.alloc (.cells #[.int .i64 k, .int .i64 R, .int .i64 N, .int .i64 p, .int .i64 n, .string ⟨tx.toArray⟩, .bool false, .int .i64 R2, .int .i64 N2] 77)).alloc (.cells #[.int .i64 0, .int .i64 0, .int .i64 0, .int .i64 0, .int .i64 0, .string ⟨#[]⟩, .bool false, .int .i64 0, .int .i64 0] 77)).heap.size = w.heap.size + 2 := by simp
  go_enter Tryz.func73, Tryz.ntmps73
  go_wp2_with fail
  generalize (w.alloc (.cells #[.int .i64 k, .int .i64 R, .int .i64 N, .int .i64 p, .int .i64 n, .string ⟨tx.toArray⟩, .bool false, .int .i64 R2, .int .i64 N2] 77)).alloc (.cells #[.int .i64 0, .int .i64 0, .int .i64 0, .int .i64 0, .int .i64 0, .string ⟨#[]⟩, .bool false, .int .i64 0, .int .i64 0] 77) = W0 at a0 a1 kw hEw zW ⊢
  refine (cS _ hEw).mono ?_
  rintro e w1 ⟨rfl, k1⟩
  have b0 := k1.heap a0 id
  have b1 := k1.heap a1 id
  have K1 := kw.trans k1
  have z1 : w.heap.size + 2 ≤ w1.heap.size := by have := k1.size; omega
  have hE1 := hE.no K1
  have c0 := Lib.cell_of_heap b0
  have ne1 : ¬ w.heap.size = w1.heap.size := by omega
  have ne2 : ¬ w.heap.size + 1 = w1.heap.size := by omega
  have lt1 : w.heap.size < w1.heap.size := by omega
  have lt2 : w.heap.size + 1 < w1.heap.size := by omega
  clear a0 a1 kw hEw zW cS k1
  have cW : ∀ W d os, Calls Tryz.prog 112 #[.agg #[.int .i64 k, .int .i64 R, .int .i64 N, .int .i64 p, .int .i64 n, .string ⟨tx.toArray⟩, .bool false, .int .i64 R2, .int .i64 N2]] (Sort.grow (redrawn W d) os) fun e w'' => e = .returned (.string ⟨(nameW k false).toArray⟩) ∧ ∃ q : Regrown, w'' = Sort.grow (redrawn W q.d) q.os :=
    fun W d os => calls_regrown (refNames_any ⟨k, ⟨R, N⟩, p, n, tx, false, ⟨R2, N2⟩⟩ _)
  have lW := nameW_len k false
  have hpw := Lib.hid (plain_words k R N p n tx false R2 N2 ⟨hk.1, by omega⟩)
  have hpt := Lib.hid (plain_none k R N p n tx false R2 N2 hk)
  generalize nameW k false = nw at cW lW hpw
  have g1 : (k == 1) = false := by rw [beq_eq_false_iff_ne]; omega
  have g2 : (k == 2) = false := by rw [beq_eq_false_iff_ne]; omega
  have g3 : (k == 3) = false := by rw [beq_eq_false_iff_ne]; omega
  have g4 : (k == 4) = false := by rw [beq_eq_false_iff_ne]; omega
  have g13 : (k == 13) = false := by rw [beq_eq_false_iff_ne]; omega
  have g14 : (k == 14) = false := by rw [beq_eq_false_iff_ne]; omega
  have g12 : (k == 12) = false := by rw [beq_eq_false_iff_ne]; omega
  have m0 : ¬ 9223372036854775807 < nw.length + 1 := by omega
  have m1 : ¬ 9223372036854775807 < nw.length + 1 + sh.length := by omega
  go_wp2
  have d0 : (w1.alloc (.cells #[.int .i64 k, .int .i64 R, .int .i64 N, .int .i64 0, .int .i64 0, .string ⟨#[]⟩, .bool false, .int .i64 0, .int .i64 0] 77)).heap[w.heap.size]? = _ := heap_alloc_keep b0 _
  have d1 : (w1.alloc (.cells #[.int .i64 k, .int .i64 R, .int .i64 N, .int .i64 0, .int .i64 0, .string ⟨#[]⟩, .bool false, .int .i64 0, .int .i64 0] 77)).heap[w.heap.size + 1]? = _ := heap_alloc_keep b1 _
  have d2 : (w1.alloc (.cells #[.int .i64 k, .int .i64 R, .int .i64 N, .int .i64 0, .int .i64 0, .string ⟨#[]⟩, .bool false, .int .i64 0, .int .i64 0] 77)).heap[w1.heap.size]? = _ := heap_alloc_new w1 _
  have KW : Keeps No w (w1.alloc (.cells #[.int .i64 k, .int .i64 R, .int .i64 N, .int .i64 0, .int .i64 0, .string ⟨#[]⟩, .bool false, .int .i64 0, .int .i64 0] 77)) := K1.alloc _
  have hEW := hE1.alloc (.cells #[.int .i64 k, .int .i64 R, .int .i64 N, .int .i64 0, .int .i64 0, .string ⟨#[]⟩, .bool false, .int .i64 0, .int .i64 0] 77)
  generalize w1.alloc (.cells #[.int .i64 k, .int .i64 R, .int .i64 N, .int .i64 0, .int .i64 0, .string ⟨#[]⟩, .bool false, .int .i64 0, .int .i64 0] 77) = WW at d0 d1 d2 KW hEW ⊢
  have hB := Lib.cell_of_heap d0
  have hT := Lib.cell_of_heap d2
  have x0 : ∀ d os, (Sort.grow (redrawn WW d) os).cell? ⟨w.heap.size, 0, none⟩ = some (.int .i64 k) := cell_regrown (hB 0)
  have x1 : ∀ d os, (Sort.grow (redrawn WW d) os).cell? ⟨w.heap.size, 1, none⟩ = some (.int .i64 R) := cell_regrown (hB 1)
  have x2 : ∀ d os, (Sort.grow (redrawn WW d) os).cell? ⟨w.heap.size, 2, none⟩ = some (.int .i64 N) := cell_regrown (hB 2)
  have x3 : ∀ d os, (Sort.grow (redrawn WW d) os).cell? ⟨w.heap.size, 3, none⟩ = some (.int .i64 p) := cell_regrown (hB 3)
  have x4 : ∀ d os, (Sort.grow (redrawn WW d) os).cell? ⟨w.heap.size, 4, none⟩ = some (.int .i64 n) := cell_regrown (hB 4)
  have x5 : ∀ d os, (Sort.grow (redrawn WW d) os).cell? ⟨w.heap.size, 5, none⟩ = some (.string ⟨tx.toArray⟩) := cell_regrown (hB 5)
  have x6 : ∀ d os, (Sort.grow (redrawn WW d) os).cell? ⟨w.heap.size, 6, none⟩ = some (.bool false) := cell_regrown (hB 6)
  have x7 : ∀ d os, (Sort.grow (redrawn WW d) os).cell? ⟨w.heap.size, 7, none⟩ = some (.int .i64 R2) := cell_regrown (hB 7)
  have x8 : ∀ d os, (Sort.grow (redrawn WW d) os).cell? ⟨w.heap.size, 8, none⟩ = some (.int .i64 N2) := cell_regrown (hB 8)
  have t0 : ∀ d os, (Sort.grow (redrawn WW d) os).cell? ⟨w1.heap.size, 0, none⟩ = some (.int .i64 k) := cell_regrown (hT 0)
  have t1 : ∀ d os, (Sort.grow (redrawn WW d) os).cell? ⟨w1.heap.size, 1, none⟩ = some (.int .i64 R) := cell_regrown (hT 1)
  have t2 : ∀ d os, (Sort.grow (redrawn WW d) os).cell? ⟨w1.heap.size, 2, none⟩ = some (.int .i64 N) := cell_regrown (hT 2)
  have t3 : ∀ d os, (Sort.grow (redrawn WW d) os).cell? ⟨w1.heap.size, 3, none⟩ = some (.int .i64 0) := cell_regrown (hT 3)
  have t4 : ∀ d os, (Sort.grow (redrawn WW d) os).cell? ⟨w1.heap.size, 4, none⟩ = some (.int .i64 0) := cell_regrown (hT 4)
  have t5 : ∀ d os, (Sort.grow (redrawn WW d) os).cell? ⟨w1.heap.size, 5, none⟩ = some (.string ⟨#[]⟩) := cell_regrown (hT 5)
  have t6 : ∀ d os, (Sort.grow (redrawn WW d) os).cell? ⟨w1.heap.size, 6, none⟩ = some (.bool false) := cell_regrown (hT 6)
  have t7 : ∀ d os, (Sort.grow (redrawn WW d) os).cell? ⟨w1.heap.size, 7, none⟩ = some (.int .i64 0) := cell_regrown (hT 7)
  have t8 : ∀ d os, (Sort.grow (redrawn WW d) os).cell? ⟨w1.heap.size, 8, none⟩ = some (.int .i64 0) := cell_regrown (hT 8)
  clear hB hT c0 b0 b1
  refine wp_region_grown_tail 7 (by kernel_rfl) (by kernel_rfl) ?_
  simp only [List.take_succ_cons, List.take_zero, List.drop_succ_cons, List.drop_zero]
  repeat (quiet_step (exact cW _ _ _))
  refine wpQuiet_nil ?_
  intro _ hw'
  obtain ⟨⟨dq, osq⟩, hw''⟩ := hw'
  subst hw''
  have kq : Keeps No WW (Sort.grow (redrawn WW dq) osq) := keeps_regrown WW dq osq
  clear x0 t0 x1 t1 x2 t2 x3 t3 x4 t4 x5 t5 x6 t6 x7 t7 x8 t8
  generalize Sort.grow (redrawn WW dq) osq = W9 at kq ⊢
  have y1 := kq.heap d1 id
  have g1 := Lib.cell_of_heap y1
  have f1 := Lib.frozen_of_heap y1
  have K9 := KW.trans kq
  go_wp2
  have v9 := heap_fill9 y1 (.int .i64 k) (.int .i64 R) (.int .i64 N) (.int .i64 0) (.int .i64 0) (.string ⟨#[]⟩) (.bool false) (.int .i64 0) (.int .i64 0)
  refine bodyPost_ret (res_rcmd v9 rfl rfl) rfl ?_
  refine RCmdPost.mk (u := ByteArray.mk (List.toArray (nw)) ++ ByteArray.mk #[32] ++ ByteArray.mk (List.toArray (sh))) (d := ⟨k, ⟨R, N⟩, 0, 0, [], false, ⟨0, 0⟩⟩) rfl ?_ hpt.out (Keeps.fill9 K9 (Nat.le_add_right _ 1) _ _ _ _ _ _ _ _ _)
  rw [bytes_app, bytes_app]
  refine congrArg ByteArray.mk ?_
  apply Array.ext'
  rw [hpw.out]
  rw [Hsh.out]
  simp

theorem rcmd_any (c : Off.Cmd) (w : World) (hE : Env w) (hF : CmdFits c) (hk : 1 ≤ c.kind ∧ c.kind ≤ 14) :
    Calls Tryz.prog 73 #[cmdV c] w (RCmdPost (Off.joinW (Off.cmdWords c)) (Off.cmdTold c) w) := by
  obtain ⟨k, ⟨R, N⟩, p, n, tx, f, ⟨R2, N2⟩⟩ := c
  simp only at hk
  have hc : k = 1 ∨ k = 2 ∨ k = 3 ∨ k = 4 ∨ k = 12 ∨ k = 13 ∨ k = 14 ∨ (5 ≤ k ∧ k ≤ 11) := by omega
  cases f
  · rcases hc with rfl | rfl | rfl | rfl | rfl | rfl | rfl | hc
    · exact rcmd_new_false R N p n tx R2 N2 w hE hF
    · exact rcmd_type_false R N p n tx R2 N2 w hE hF
    · exact rcmd_erase_false R N p n tx R2 N2 w hE hF
    · exact rcmd_split_false R N p n tx R2 N2 w hE hF
    · exact rcmd_fold_false R N p n tx R2 N2 w hE hF
    · exact rcmd_move_false R N p n tx R2 N2 w hE hF
    · exact rcmd_place_false R N p n tx R2 N2 w hE hF
    · exact rcmd_plain_false k R N p n tx R2 N2 w hE hF hc
  · rcases hc with rfl | rfl | rfl | rfl | rfl | rfl | rfl | hc
    · exact rcmd_new_true R N p n tx R2 N2 w hE hF
    · exact rcmd_type_true R N p n tx R2 N2 w hE hF
    · exact rcmd_erase_true R N p n tx R2 N2 w hE hF
    · exact rcmd_split_true R N p n tx R2 N2 w hE hF
    · exact rcmd_fold_true R N p n tx R2 N2 w hE hF
    · exact rcmd_move_true R N p n tx R2 N2 w hE hF
    · exact rcmd_place_true R N p n tx R2 N2 w hE hF
    · exact rcmd_plain_true k R N p n tx R2 N2 w hE hF hc

end Go.Proofs.YtkpenijilnagjaaGreatDoor
