/- A line's command, kind by kind. -/
import Derived.Test.YtkpenijilnagjaaGreatDoorLCmdBase
namespace Go.Proofs.YtkpenijilnagjaaGreatDoor
open Go.RowKit

set_option maxRecDepth 100000 in
set_option maxHeartbeats 4000000 in
theorem lcmd_fold (b : Nat) (v0 : Value) (ws : List (List UInt8)) (c : Off.Cmd) (w : World) (hE : Env w) (h10 : 10 ≤ b) (hl : LineIs b v0 ws w) (hin : CmdFits c) (hws : ws.length ≤ 10) (hk : c.kind = 12) :
    Calls Tryz.prog 76 #[.pointer (some ⟨b, 0, none⟩), cmdV c] w (LCmdPost b w ws c) := by
  have ⟨h1, h2, h3, h4, h5, h6, h7⟩ := hin
  have hW := Lib.hid (show ws ++ Off.cmdWords c = ws ++ Off.cmdWords c from rfl)
  have hP := plain_any c
  have hT : Hid (Off.cmdTold c = Off.cmdTold c) := rfl
  obtain ⟨kd, ⟨R, N⟩, p, n, t, f, ⟨R2, N2⟩⟩ := c
  simp only at h1 h2 h3 h4 h5 h6 h7 hk
  subst hk
  have hlt : b < w.heap.size := heap_lt hl.1
  obtain ⟨bc0, bz0, bt0⟩ := three_boxes w (.cells #[.int .i64 12, .int .i64 R, .int .i64 N, .int .i64 p, .int .i64 n, .string ⟨t.toArray⟩, .bool f, .int .i64 R2, .int .i64 N2] 77) (.cells #[.int .i64 0, .int .i64 0, .int .i64 0, .int .i64 0, .int .i64 0, .string ⟨#[]⟩, .bool false, .int .i64 0, .int .i64 0] 77) (.cells #[.int .i64 12, .int .i64 R, .int .i64 N, .int .i64 0, .int .i64 0, .string ⟨#[]⟩, .bool f, .int .i64 0, .int .i64 0] 77)
  have KL0 : Keeps (LS b w) w (((w.alloc (.cells #[.int .i64 12, .int .i64 R, .int .i64 N, .int .i64 p, .int .i64 n, .string ⟨t.toArray⟩, .bool f, .int .i64 R2, .int .i64 N2] 77)).alloc (.cells #[.int .i64 0, .int .i64 0, .int .i64 0, .int .i64 0, .int .i64 0, .string ⟨#[]⟩, .bool false, .int .i64 0, .int .i64 0] 77)).alloc (.cells #[.int .i64 12, .int .i64 R, .int .i64 N, .int .i64 0, .int .i64 0, .string ⟨#[]⟩, .bool f, .int .i64 0, .int .i64 0] 77)) := (((Keeps.refl _ _).alloc _).alloc _).alloc _
  have hl0 := ((hl.alloc (.cells #[.int .i64 12, .int .i64 R, .int .i64 N, .int .i64 p, .int .i64 n, .string ⟨t.toArray⟩, .bool f, .int .i64 R2, .int .i64 N2] 77)).alloc (.cells #[.int .i64 0, .int .i64 0, .int .i64 0, .int .i64 0, .int .i64 0, .string ⟨#[]⟩, .bool false, .int .i64 0, .int .i64 0] 77)).alloc (.cells #[.int .i64 12, .int .i64 R, .int .i64 N, .int .i64 0, .int .i64 0, .string ⟨#[]⟩, .bool f, .int .i64 0, .int .i64 0] 77)
  go_enter Tryz.func76, Tryz.ntmps76
  go_wp2_with fail
  refine (hP _).mono ?_
  rintro e q1 ⟨rfl, kq1⟩
  have hE0 : Env _ := ((hE.alloc (.cells #[.int .i64 12, .int .i64 R, .int .i64 N, .int .i64 p, .int .i64 n, .string ⟨t.toArray⟩, .bool f, .int .i64 R2, .int .i64 N2] 77)).alloc (.cells #[.int .i64 0, .int .i64 0, .int .i64 0, .int .i64 0, .int .i64 0, .string ⟨#[]⟩, .bool false, .int .i64 0, .int .i64 0] 77)).alloc (.cells #[.int .i64 12, .int .i64 R, .int .i64 N, .int .i64 0, .int .i64 0, .string ⟨#[]⟩, .bool f, .int .i64 0, .int .i64 0] 77)
  have bcq := kq1.heap bc0 id; have bzq := kq1.heap bz0 id; have btq := kq1.heap bt0 id; have hlq := hl0.no kq1 (fun _ e => e.elim); have KLq := KL0.trans kq1.any
  go_wp2_with fail
  refine (add_any b q1.heap.size 1 1 v0 (ws) [Off.plainW ⟨12, ⟨R, N⟩, p, n, t, f, ⟨R2, N2⟩⟩] _ (hlq.alloc (.cells #[strV (Off.plainW ⟨12, ⟨R, N⟩, p, n, t, f, ⟨R2, N2⟩⟩)] 9)) rfl (one_cell q1 _) (by simp; omega)).mono ?_
  rintro e w1 ⟨rfl, ⟨v1, hl1⟩, k1⟩
  have bc1 := k1.heap (heap_alloc_keep bcq (.cells #[strV (Off.plainW ⟨12, ⟨R, N⟩, p, n, t, f, ⟨R2, N2⟩⟩)] 9)) (not_LS (heap_alloc_keep bcq (.cells #[strV (Off.plainW ⟨12, ⟨R, N⟩, p, n, t, f, ⟨R2, N2⟩⟩)] 9)) (by omega) (by decide))
  have bz1 := k1.heap (heap_alloc_keep bzq (.cells #[strV (Off.plainW ⟨12, ⟨R, N⟩, p, n, t, f, ⟨R2, N2⟩⟩)] 9)) (not_LS (heap_alloc_keep bzq (.cells #[strV (Off.plainW ⟨12, ⟨R, N⟩, p, n, t, f, ⟨R2, N2⟩⟩)] 9)) (by omega) (by decide))
  have bt1 := k1.heap (heap_alloc_keep btq (.cells #[strV (Off.plainW ⟨12, ⟨R, N⟩, p, n, t, f, ⟨R2, N2⟩⟩)] 9)) (not_LS (heap_alloc_keep btq (.cells #[strV (Off.plainW ⟨12, ⟨R, N⟩, p, n, t, f, ⟨R2, N2⟩⟩)] 9)) (by omega) (by decide))
  have KL1 := Keeps.line (KLq.alloc _) k1
  have x1 := Lib.cell_of_heap bc1; have y1 := Lib.cell_of_heap bz1; have z1 := Lib.cell_of_heap bt1; have u1 := Lib.frozen_of_heap bz1
  have hE1 : Env w1 := LS_env hE h10 KL1
  go_wp2_with fail
  refine (lineBlock_any b v1 (ws ++ [Off.plainW ⟨12, ⟨R, N⟩, p, n, t, f, ⟨R2, N2⟩⟩]) R N _ hE1 hl1 h1 h2 (by simp; omega)).mono ?_
  rintro e w2 ⟨rfl, ⟨v2, hl2⟩, k2⟩
  have bc2 := k2.heap bc1 (not_LS bc1 (by omega) (by decide))
  have bz2 := k2.heap bz1 (not_LS bz1 (by omega) (by decide))
  have bt2 := k2.heap bt1 (not_LS bt1 (by omega) (by decide))
  have KL2 := Keeps.line KL1 k2
  have x2 := Lib.cell_of_heap bc2; have y2 := Lib.cell_of_heap bz2; have z2 := Lib.cell_of_heap bt2; have u2 := Lib.frozen_of_heap bz2
  have hE2 : Env w2 := LS_env hE h10 KL2
  clear x1 y1 z1 u1
  go_wp2_with fail
  have b9 := heap_fill9 bz2 (.int .i64 12) (.int .i64 R) (.int .i64 N) (.int .i64 0) (.int .i64 0) (.string ⟨#[]⟩) (.bool f) (.int .i64 0) (.int .i64 0)
  have k9 : Keeps (At1 (w.heap.size + 1)) w2 _ := Keeps.fillAt bz2 (.int .i64 12) (.int .i64 R) (.int .i64 N) (.int .i64 0) (.int .i64 0) (.string ⟨#[]⟩) (.bool f) (.int .i64 0) (.int .i64 0)
  refine bodyPost_ret (res_lcmd b9 rfl) rfl ⟨?_, ⟨v2, ?_⟩, KL2.fill9 (by omega) _ _ _ _ _ _ _ _ _⟩
  · rfl
  · simpa [Off.cmdWords] using hl2.keep1 k9 bz2 (by omega) (by decide)

set_option maxRecDepth 100000 in
set_option maxHeartbeats 4000000 in
theorem lcmd_other (b : Nat) (v0 : Value) (ws : List (List UInt8)) (c : Off.Cmd) (w : World) (hE : Env w) (h10 : 10 ≤ b) (hl : LineIs b v0 ws w) (hin : CmdFits c) (hws : ws.length ≤ 10) (n1 : c.kind ≠ 1) (n2 : c.kind ≠ 2) (n3 : c.kind ≠ 3) (n4 : c.kind ≠ 4) (n12 : c.kind ≠ 12) (n13 : c.kind ≠ 13) (n14 : c.kind ≠ 14) :
    Calls Tryz.prog 76 #[.pointer (some ⟨b, 0, none⟩), cmdV c] w (LCmdPost b w ws c) := by
  have ⟨h1, h2, h3, h4, h5, h6, h7⟩ := hin
  have hW := Lib.hid (show ws ++ Off.cmdWords c = ws ++ Off.cmdWords c from rfl)
  have hP := plain_any c
  have hT : Hid (Off.cmdTold c = Off.cmdTold c) := rfl
  obtain ⟨kd, ⟨R, N⟩, p, n, t, f, ⟨R2, N2⟩⟩ := c
  simp only at h1 h2 h3 h4 h5 h6 h7 n1 n2 n3 n4 n12 n13 n14
  have hlt : b < w.heap.size := heap_lt hl.1
  have m1 : (kd == 1) = false := beq_eq_false_iff_ne.2 n1
  have m2 : (kd == 2) = false := beq_eq_false_iff_ne.2 n2
  have m3 : (kd == 3) = false := beq_eq_false_iff_ne.2 n3
  have m4 : (kd == 4) = false := beq_eq_false_iff_ne.2 n4
  have m12 : (kd == 12) = false := beq_eq_false_iff_ne.2 n12
  have m13 : (kd == 13) = false := beq_eq_false_iff_ne.2 n13
  have m14 : (kd == 14) = false := beq_eq_false_iff_ne.2 n14
  have HN := Lib.hid (And.intro n1 (And.intro n2 (And.intro n3 (And.intro n4 (And.intro n12 (And.intro n13 n14))))))
  clear n1 n2 n3 n4 n12 n13 n14
  obtain ⟨bc0, bz0, bt0⟩ := three_boxes w (.cells #[.int .i64 kd, .int .i64 R, .int .i64 N, .int .i64 p, .int .i64 n, .string ⟨t.toArray⟩, .bool f, .int .i64 R2, .int .i64 N2] 77) (.cells #[.int .i64 0, .int .i64 0, .int .i64 0, .int .i64 0, .int .i64 0, .string ⟨#[]⟩, .bool false, .int .i64 0, .int .i64 0] 77) (.cells #[.int .i64 kd, .int .i64 R, .int .i64 N, .int .i64 0, .int .i64 0, .string ⟨#[]⟩, .bool false, .int .i64 0, .int .i64 0] 77)
  have KL0 : Keeps (LS b w) w (((w.alloc (.cells #[.int .i64 kd, .int .i64 R, .int .i64 N, .int .i64 p, .int .i64 n, .string ⟨t.toArray⟩, .bool f, .int .i64 R2, .int .i64 N2] 77)).alloc (.cells #[.int .i64 0, .int .i64 0, .int .i64 0, .int .i64 0, .int .i64 0, .string ⟨#[]⟩, .bool false, .int .i64 0, .int .i64 0] 77)).alloc (.cells #[.int .i64 kd, .int .i64 R, .int .i64 N, .int .i64 0, .int .i64 0, .string ⟨#[]⟩, .bool false, .int .i64 0, .int .i64 0] 77)) := (((Keeps.refl _ _).alloc _).alloc _).alloc _
  have hl0 := ((hl.alloc (.cells #[.int .i64 kd, .int .i64 R, .int .i64 N, .int .i64 p, .int .i64 n, .string ⟨t.toArray⟩, .bool f, .int .i64 R2, .int .i64 N2] 77)).alloc (.cells #[.int .i64 0, .int .i64 0, .int .i64 0, .int .i64 0, .int .i64 0, .string ⟨#[]⟩, .bool false, .int .i64 0, .int .i64 0] 77)).alloc (.cells #[.int .i64 kd, .int .i64 R, .int .i64 N, .int .i64 0, .int .i64 0, .string ⟨#[]⟩, .bool false, .int .i64 0, .int .i64 0] 77)
  go_enter Tryz.func76, Tryz.ntmps76
  go_wp2_with fail
  refine (hP _).mono ?_
  rintro e q1 ⟨rfl, kq1⟩
  have hE0 : Env _ := ((hE.alloc (.cells #[.int .i64 kd, .int .i64 R, .int .i64 N, .int .i64 p, .int .i64 n, .string ⟨t.toArray⟩, .bool f, .int .i64 R2, .int .i64 N2] 77)).alloc (.cells #[.int .i64 0, .int .i64 0, .int .i64 0, .int .i64 0, .int .i64 0, .string ⟨#[]⟩, .bool false, .int .i64 0, .int .i64 0] 77)).alloc (.cells #[.int .i64 kd, .int .i64 R, .int .i64 N, .int .i64 0, .int .i64 0, .string ⟨#[]⟩, .bool false, .int .i64 0, .int .i64 0] 77)
  have bcq := kq1.heap bc0 id; have bzq := kq1.heap bz0 id; have btq := kq1.heap bt0 id; have hlq := hl0.no kq1 (fun _ e => e.elim); have KLq := KL0.trans kq1.any
  go_wp2_with fail
  refine (add_any b q1.heap.size 1 1 v0 (ws) [Off.plainW ⟨kd, ⟨R, N⟩, p, n, t, f, ⟨R2, N2⟩⟩] _ (hlq.alloc (.cells #[strV (Off.plainW ⟨kd, ⟨R, N⟩, p, n, t, f, ⟨R2, N2⟩⟩)] 9)) rfl (one_cell q1 _) (by simp; omega)).mono ?_
  rintro e w1 ⟨rfl, ⟨v1, hl1⟩, k1⟩
  have bc1 := k1.heap (heap_alloc_keep bcq (.cells #[strV (Off.plainW ⟨kd, ⟨R, N⟩, p, n, t, f, ⟨R2, N2⟩⟩)] 9)) (not_LS (heap_alloc_keep bcq (.cells #[strV (Off.plainW ⟨kd, ⟨R, N⟩, p, n, t, f, ⟨R2, N2⟩⟩)] 9)) (by omega) (by decide))
  have bz1 := k1.heap (heap_alloc_keep bzq (.cells #[strV (Off.plainW ⟨kd, ⟨R, N⟩, p, n, t, f, ⟨R2, N2⟩⟩)] 9)) (not_LS (heap_alloc_keep bzq (.cells #[strV (Off.plainW ⟨kd, ⟨R, N⟩, p, n, t, f, ⟨R2, N2⟩⟩)] 9)) (by omega) (by decide))
  have bt1 := k1.heap (heap_alloc_keep btq (.cells #[strV (Off.plainW ⟨kd, ⟨R, N⟩, p, n, t, f, ⟨R2, N2⟩⟩)] 9)) (not_LS (heap_alloc_keep btq (.cells #[strV (Off.plainW ⟨kd, ⟨R, N⟩, p, n, t, f, ⟨R2, N2⟩⟩)] 9)) (by omega) (by decide))
  have KL1 := Keeps.line (KLq.alloc _) k1
  have x1 := Lib.cell_of_heap bc1; have y1 := Lib.cell_of_heap bz1; have z1 := Lib.cell_of_heap bt1; have u1 := Lib.frozen_of_heap bz1
  have hE1 : Env w1 := LS_env hE h10 KL1
  go_wp2_with fail
  refine (lineBlock_any b v1 (ws ++ [Off.plainW ⟨kd, ⟨R, N⟩, p, n, t, f, ⟨R2, N2⟩⟩]) R N _ hE1 hl1 h1 h2 (by simp; omega)).mono ?_
  rintro e w2 ⟨rfl, ⟨v2, hl2⟩, k2⟩
  have bc2 := k2.heap bc1 (not_LS bc1 (by omega) (by decide))
  have bz2 := k2.heap bz1 (not_LS bz1 (by omega) (by decide))
  have bt2 := k2.heap bt1 (not_LS bt1 (by omega) (by decide))
  have KL2 := Keeps.line KL1 k2
  have x2 := Lib.cell_of_heap bc2; have y2 := Lib.cell_of_heap bz2; have z2 := Lib.cell_of_heap bt2; have u2 := Lib.frozen_of_heap bz2
  have hE2 : Env w2 := LS_env hE h10 KL2
  clear x1 y1 z1 u1
  go_wp2_with fail
  have b9 := heap_fill9 bz2 (.int .i64 kd) (.int .i64 R) (.int .i64 N) (.int .i64 0) (.int .i64 0) (.string ⟨#[]⟩) (.bool false) (.int .i64 0) (.int .i64 0)
  have k9 : Keeps (At1 (w.heap.size + 1)) w2 _ := Keeps.fillAt bz2 (.int .i64 kd) (.int .i64 R) (.int .i64 N) (.int .i64 0) (.int .i64 0) (.string ⟨#[]⟩) (.bool false) (.int .i64 0) (.int .i64 0)
  refine bodyPost_ret (res_lcmd b9 rfl) rfl ⟨?_, ⟨v2, ?_⟩, KL2.fill9 (by omega) _ _ _ _ _ _ _ _ _⟩
  · obtain ⟨n1, n2, n3, n4, n12, n13, n14⟩ := HN.out
    unfold Off.cmdTold; rw [if_neg n1, if_neg n2, if_neg n3, if_neg n4, if_neg n13, if_neg n14, decide_eq_false n12]; rfl
  · obtain ⟨n1, n2, n3, n4, n12, n13, n14⟩ := HN.out
    unfold Off.cmdWords; rw [if_neg n1, if_neg n2, if_neg n3, if_neg n4, if_neg n13, if_neg n14]
    simpa using hl2.keep1 k9 bz2 (by omega) (by decide)

end Go.Proofs.YtkpenijilnagjaaGreatDoor
