/- A line's command, kind by kind. -/
import Derived.Test.YtkpenijilnagjaaGreatDoorLCmdBase
namespace Go.Proofs.YtkpenijilnagjaaGreatDoor
open Go.RowKit

set_option maxRecDepth 100000 in
set_option maxHeartbeats 4000000 in
theorem lcmd_new (b : Nat) (v0 : Value) (ws : List (List UInt8)) (c : Off.Cmd) (w : World) (hE : Env w) (h10 : 10 ≤ b) (hl : LineIs b v0 ws w) (hin : CmdFits c) (hws : ws.length ≤ 10) (hk : c.kind = 1) :
    Calls Tryz.prog 76 #[.pointer (some ⟨b, 0, none⟩), cmdV c] w (LCmdPost b w ws c) := by
  have ⟨h1, h2, h3, h4, h5, h6, h7⟩ := hin
  have hW := Lib.hid (show ws ++ Off.cmdWords c = ws ++ Off.cmdWords c from rfl)
  have hT : Hid (Off.cmdTold c = Off.cmdTold c) := rfl
  obtain ⟨kd, ⟨R, N⟩, p, n, t, f, ⟨R2, N2⟩⟩ := c
  simp only at h1 h2 h3 h4 h5 h6 h7 hk
  subst hk
  have hlt : b < w.heap.size := heap_lt hl.1
  obtain ⟨bc0, bz0, bt0⟩ := three_boxes w (.cells #[.int .i64 1, .int .i64 R, .int .i64 N, .int .i64 p, .int .i64 n, .string ⟨t.toArray⟩, .bool f, .int .i64 R2, .int .i64 N2] 77) (.cells #[.int .i64 0, .int .i64 0, .int .i64 0, .int .i64 0, .int .i64 0, .string ⟨#[]⟩, .bool false, .int .i64 0, .int .i64 0] 77) (.cells #[.int .i64 1, .int .i64 R, .int .i64 N, .int .i64 0, .int .i64 0, .string ⟨t.toArray⟩, .bool f, .int .i64 0, .int .i64 0] 77)
  have KL0 : Keeps (LS b w) w (((w.alloc (.cells #[.int .i64 1, .int .i64 R, .int .i64 N, .int .i64 p, .int .i64 n, .string ⟨t.toArray⟩, .bool f, .int .i64 R2, .int .i64 N2] 77)).alloc (.cells #[.int .i64 0, .int .i64 0, .int .i64 0, .int .i64 0, .int .i64 0, .string ⟨#[]⟩, .bool false, .int .i64 0, .int .i64 0] 77)).alloc (.cells #[.int .i64 1, .int .i64 R, .int .i64 N, .int .i64 0, .int .i64 0, .string ⟨t.toArray⟩, .bool f, .int .i64 0, .int .i64 0] 77)) := (((Keeps.refl _ _).alloc _).alloc _).alloc _
  have hl0 := ((hl.alloc (.cells #[.int .i64 1, .int .i64 R, .int .i64 N, .int .i64 p, .int .i64 n, .string ⟨t.toArray⟩, .bool f, .int .i64 R2, .int .i64 N2] 77)).alloc (.cells #[.int .i64 0, .int .i64 0, .int .i64 0, .int .i64 0, .int .i64 0, .string ⟨#[]⟩, .bool false, .int .i64 0, .int .i64 0] 77)).alloc (.cells #[.int .i64 1, .int .i64 R, .int .i64 N, .int .i64 0, .int .i64 0, .string ⟨t.toArray⟩, .bool f, .int .i64 0, .int .i64 0] 77)
  go_enter Tryz.func76, Tryz.ntmps76
  go_wp2_with fail
  go_region
  go_wp2_with fail
  refine (add_any b _ 1 1 v0 (ws) [Off.sNew] _ ((hl0.alloc (.cells #[strV Off.sNew] 9)).drew) rfl (one_cell_drew _ _ (by simp)) (by simp; omega)).mono ?_
  rintro e w1 ⟨rfl, ⟨v1, hl1⟩, k1⟩
  have k1 : Keeps (LS b (World.alloc _ (.cells #[strV Off.sNew] 9))) (World.alloc _ (.cells #[strV Off.sNew] 9)) w1 := k1.of_drew
  have bc1 := k1.heap (heap_alloc_keep bc0 (.cells #[strV Off.sNew] 9)) (not_LS (heap_alloc_keep bc0 (.cells #[strV Off.sNew] 9)) (by omega) (by decide))
  have bz1 := k1.heap (heap_alloc_keep bz0 (.cells #[strV Off.sNew] 9)) (not_LS (heap_alloc_keep bz0 (.cells #[strV Off.sNew] 9)) (by omega) (by decide))
  have bt1 := k1.heap (heap_alloc_keep bt0 (.cells #[strV Off.sNew] 9)) (not_LS (heap_alloc_keep bt0 (.cells #[strV Off.sNew] 9)) (by omega) (by decide))
  have KL1 := Keeps.line (KL0.alloc _) k1
  have x1 := Lib.cell_of_heap bc1; have y1 := Lib.cell_of_heap bz1; have z1 := Lib.cell_of_heap bt1; have u1 := Lib.frozen_of_heap bz1
  have hE1 : Env w1 := LS_env hE h10 KL1
  go_wp2_with fail
  refine (where_any b v1 (ws ++ [Off.sNew]) f _ hl1 (by simp; omega)).mono ?_
  rintro e w2 ⟨rfl, ⟨v2, hl2⟩, k2⟩
  have bc2 := k2.heap bc1 (not_LS bc1 (by omega) (by decide))
  have bz2 := k2.heap bz1 (not_LS bz1 (by omega) (by decide))
  have bt2 := k2.heap bt1 (not_LS bt1 (by omega) (by decide))
  have KL2 := Keeps.line KL1 k2
  have x2 := Lib.cell_of_heap bc2; have y2 := Lib.cell_of_heap bz2; have z2 := Lib.cell_of_heap bt2; have u2 := Lib.frozen_of_heap bz2
  have hE2 : Env w2 := LS_env hE h10 KL2
  clear x1 y1 z1 u1
  go_wp2_with fail
  refine (lineBlock_any b v2 (ws ++ [Off.sNew] ++ [Off.whereW f]) R N _ hE2 hl2 h1 h2 (by simp; omega)).mono ?_
  rintro e w3 ⟨rfl, ⟨v3, hl3⟩, k3⟩
  have bc3 := k3.heap bc2 (not_LS bc2 (by omega) (by decide))
  have bz3 := k3.heap bz2 (not_LS bz2 (by omega) (by decide))
  have bt3 := k3.heap bt2 (not_LS bt2 (by omega) (by decide))
  have KL3 := Keeps.line KL2 k3
  have x3 := Lib.cell_of_heap bc3; have y3 := Lib.cell_of_heap bz3; have z3 := Lib.cell_of_heap bt3; have u3 := Lib.frozen_of_heap bz3
  have hE3 : Env w3 := LS_env hE h10 KL3
  clear x2 y2 z2 u2
  go_wp2_with fail
  refine (quoted_any t _ h7).mono ?_
  rintro e q4 ⟨rfl, kq4⟩
  have bcq := kq4.heap bc3 id; have bzq := kq4.heap bz3 id; have btq := kq4.heap bt3 id; have hlq := hl3.no kq4 (fun _ e => e.elim); have KLq := KL3.trans kq4.any
  go_wp2_with fail
  refine (add_any b q4.heap.size 1 1 v3 (ws ++ [Off.sNew] ++ [Off.whereW f] ++ [Off.showId ⟨R, N⟩]) [Off.quoted t] _ (hlq.alloc (.cells #[strV (Off.quoted t)] 9)) rfl (one_cell q4 _) (by simp; omega)).mono ?_
  rintro e w4 ⟨rfl, ⟨v4, hl4⟩, k4⟩
  have bc4 := k4.heap (heap_alloc_keep bcq (.cells #[strV (Off.quoted t)] 9)) (not_LS (heap_alloc_keep bcq (.cells #[strV (Off.quoted t)] 9)) (by omega) (by decide))
  have bz4 := k4.heap (heap_alloc_keep bzq (.cells #[strV (Off.quoted t)] 9)) (not_LS (heap_alloc_keep bzq (.cells #[strV (Off.quoted t)] 9)) (by omega) (by decide))
  have bt4 := k4.heap (heap_alloc_keep btq (.cells #[strV (Off.quoted t)] 9)) (not_LS (heap_alloc_keep btq (.cells #[strV (Off.quoted t)] 9)) (by omega) (by decide))
  have KL4 := Keeps.line (KLq.alloc _) k4
  have x4 := Lib.cell_of_heap bc4; have y4 := Lib.cell_of_heap bz4; have z4 := Lib.cell_of_heap bt4; have u4 := Lib.frozen_of_heap bz4
  have hE4 : Env w4 := LS_env hE h10 KL4
  clear x3 y3 z3 u3
  go_wp2_with fail
  have b9 := heap_fill9 bz4 (.int .i64 1) (.int .i64 R) (.int .i64 N) (.int .i64 0) (.int .i64 0) (.string ⟨t.toArray⟩) (.bool f) (.int .i64 0) (.int .i64 0)
  have k9 : Keeps (At1 (w.heap.size + 1)) w4 _ := Keeps.fillAt bz4 (.int .i64 1) (.int .i64 R) (.int .i64 N) (.int .i64 0) (.int .i64 0) (.string ⟨t.toArray⟩) (.bool f) (.int .i64 0) (.int .i64 0)
  refine bodyPost_ret (res_lcmd b9 rfl) rfl ⟨?_, ⟨v4, ?_⟩, KL4.fill9 (by omega) _ _ _ _ _ _ _ _ _⟩
  · rfl
  · simpa [Off.cmdWords] using hl4.keep1 k9 bz4 (by omega) (by decide)

set_option maxRecDepth 100000 in
set_option maxHeartbeats 4000000 in
theorem lcmd_type (b : Nat) (v0 : Value) (ws : List (List UInt8)) (c : Off.Cmd) (w : World) (hE : Env w) (h10 : 10 ≤ b) (hl : LineIs b v0 ws w) (hin : CmdFits c) (hws : ws.length ≤ 10) (hk : c.kind = 2) :
    Calls Tryz.prog 76 #[.pointer (some ⟨b, 0, none⟩), cmdV c] w (LCmdPost b w ws c) := by
  have ⟨h1, h2, h3, h4, h5, h6, h7⟩ := hin
  have hW := Lib.hid (show ws ++ Off.cmdWords c = ws ++ Off.cmdWords c from rfl)
  have hT : Hid (Off.cmdTold c = Off.cmdTold c) := rfl
  obtain ⟨kd, ⟨R, N⟩, p, n, t, f, ⟨R2, N2⟩⟩ := c
  simp only at h1 h2 h3 h4 h5 h6 h7 hk
  subst hk
  have hlt : b < w.heap.size := heap_lt hl.1
  obtain ⟨bc0, bz0, bt0⟩ := three_boxes w (.cells #[.int .i64 2, .int .i64 R, .int .i64 N, .int .i64 p, .int .i64 n, .string ⟨t.toArray⟩, .bool f, .int .i64 R2, .int .i64 N2] 77) (.cells #[.int .i64 0, .int .i64 0, .int .i64 0, .int .i64 0, .int .i64 0, .string ⟨#[]⟩, .bool false, .int .i64 0, .int .i64 0] 77) (.cells #[.int .i64 2, .int .i64 R, .int .i64 N, .int .i64 p, .int .i64 0, .string ⟨t.toArray⟩, .bool false, .int .i64 0, .int .i64 0] 77)
  have KL0 : Keeps (LS b w) w (((w.alloc (.cells #[.int .i64 2, .int .i64 R, .int .i64 N, .int .i64 p, .int .i64 n, .string ⟨t.toArray⟩, .bool f, .int .i64 R2, .int .i64 N2] 77)).alloc (.cells #[.int .i64 0, .int .i64 0, .int .i64 0, .int .i64 0, .int .i64 0, .string ⟨#[]⟩, .bool false, .int .i64 0, .int .i64 0] 77)).alloc (.cells #[.int .i64 2, .int .i64 R, .int .i64 N, .int .i64 p, .int .i64 0, .string ⟨t.toArray⟩, .bool false, .int .i64 0, .int .i64 0] 77)) := (((Keeps.refl _ _).alloc _).alloc _).alloc _
  have hl0 := ((hl.alloc (.cells #[.int .i64 2, .int .i64 R, .int .i64 N, .int .i64 p, .int .i64 n, .string ⟨t.toArray⟩, .bool f, .int .i64 R2, .int .i64 N2] 77)).alloc (.cells #[.int .i64 0, .int .i64 0, .int .i64 0, .int .i64 0, .int .i64 0, .string ⟨#[]⟩, .bool false, .int .i64 0, .int .i64 0] 77)).alloc (.cells #[.int .i64 2, .int .i64 R, .int .i64 N, .int .i64 p, .int .i64 0, .string ⟨t.toArray⟩, .bool false, .int .i64 0, .int .i64 0] 77)
  go_enter Tryz.func76, Tryz.ntmps76
  go_wp2_with fail
  go_region
  go_wp2_with fail
  refine (add_any b _ 1 1 v0 (ws) [Off.sType] _ ((hl0.alloc (.cells #[strV Off.sType] 9)).drew) rfl (one_cell_drew _ _ (by simp)) (by simp; omega)).mono ?_
  rintro e w1 ⟨rfl, ⟨v1, hl1⟩, k1⟩
  have k1 : Keeps (LS b (World.alloc _ (.cells #[strV Off.sType] 9))) (World.alloc _ (.cells #[strV Off.sType] 9)) w1 := k1.of_drew
  have bc1 := k1.heap (heap_alloc_keep bc0 (.cells #[strV Off.sType] 9)) (not_LS (heap_alloc_keep bc0 (.cells #[strV Off.sType] 9)) (by omega) (by decide))
  have bz1 := k1.heap (heap_alloc_keep bz0 (.cells #[strV Off.sType] 9)) (not_LS (heap_alloc_keep bz0 (.cells #[strV Off.sType] 9)) (by omega) (by decide))
  have bt1 := k1.heap (heap_alloc_keep bt0 (.cells #[strV Off.sType] 9)) (not_LS (heap_alloc_keep bt0 (.cells #[strV Off.sType] 9)) (by omega) (by decide))
  have KL1 := Keeps.line (KL0.alloc _) k1
  have x1 := Lib.cell_of_heap bc1; have y1 := Lib.cell_of_heap bz1; have z1 := Lib.cell_of_heap bt1; have u1 := Lib.frozen_of_heap bz1
  have hE1 : Env w1 := LS_env hE h10 KL1
  go_wp2_with fail
  refine (lineBlock_any b v1 (ws ++ [Off.sType]) R N _ hE1 hl1 h1 h2 (by simp; omega)).mono ?_
  rintro e w2 ⟨rfl, ⟨v2, hl2⟩, k2⟩
  have bc2 := k2.heap bc1 (not_LS bc1 (by omega) (by decide))
  have bz2 := k2.heap bz1 (not_LS bz1 (by omega) (by decide))
  have bt2 := k2.heap bt1 (not_LS bt1 (by omega) (by decide))
  have KL2 := Keeps.line KL1 k2
  have x2 := Lib.cell_of_heap bc2; have y2 := Lib.cell_of_heap bz2; have z2 := Lib.cell_of_heap bt2; have u2 := Lib.frozen_of_heap bz2
  have hE2 : Env w2 := LS_env hE h10 KL2
  clear x1 y1 z1 u1
  go_wp2_with fail
  refine (numbers_any b w2.heap.size v2 (ws ++ [Off.sType] ++ [Off.showId ⟨R, N⟩]) [p] _ (hE2.alloc _) h10 (hl2.alloc (.cells #[.int .i64 p] 3)) (heap_alloc_new w2 _) (by have := heap_lt hl2.1; omega) (by simp [h5]) (by simp; omega)).mono ?_
  rintro e w3 ⟨rfl, ⟨v3, hl3⟩, k3⟩
  have bc3 := k3.heap (heap_alloc_keep bc2 (.cells #[.int .i64 p] 3)) (not_LS (heap_alloc_keep bc2 (.cells #[.int .i64 p] 3)) (by omega) (by decide))
  have bz3 := k3.heap (heap_alloc_keep bz2 (.cells #[.int .i64 p] 3)) (not_LS (heap_alloc_keep bz2 (.cells #[.int .i64 p] 3)) (by omega) (by decide))
  have bt3 := k3.heap (heap_alloc_keep bt2 (.cells #[.int .i64 p] 3)) (not_LS (heap_alloc_keep bt2 (.cells #[.int .i64 p] 3)) (by omega) (by decide))
  have KL3 := Keeps.line (KL2.alloc _) k3
  have x3 := Lib.cell_of_heap bc3; have y3 := Lib.cell_of_heap bz3; have z3 := Lib.cell_of_heap bt3; have u3 := Lib.frozen_of_heap bz3
  have hE3 : Env w3 := LS_env hE h10 KL3
  clear x2 y2 z2 u2
  go_wp2_with fail
  refine (quoted_any t _ h7).mono ?_
  rintro e q4 ⟨rfl, kq4⟩
  have bcq := kq4.heap bc3 id; have bzq := kq4.heap bz3 id; have btq := kq4.heap bt3 id; have hlq := hl3.no kq4 (fun _ e => e.elim); have KLq := KL3.trans kq4.any
  go_wp2_with fail
  refine (add_any b q4.heap.size 1 1 v3 (ws ++ [Off.sType] ++ [Off.showId ⟨R, N⟩] ++ [p].map Lib.itoa) [Off.quoted t] _ (hlq.alloc (.cells #[strV (Off.quoted t)] 9)) rfl (one_cell q4 _) (by simp; omega)).mono ?_
  rintro e w4 ⟨rfl, ⟨v4, hl4⟩, k4⟩
  have bc4 := k4.heap (heap_alloc_keep bcq (.cells #[strV (Off.quoted t)] 9)) (not_LS (heap_alloc_keep bcq (.cells #[strV (Off.quoted t)] 9)) (by omega) (by decide))
  have bz4 := k4.heap (heap_alloc_keep bzq (.cells #[strV (Off.quoted t)] 9)) (not_LS (heap_alloc_keep bzq (.cells #[strV (Off.quoted t)] 9)) (by omega) (by decide))
  have bt4 := k4.heap (heap_alloc_keep btq (.cells #[strV (Off.quoted t)] 9)) (not_LS (heap_alloc_keep btq (.cells #[strV (Off.quoted t)] 9)) (by omega) (by decide))
  have KL4 := Keeps.line (KLq.alloc _) k4
  have x4 := Lib.cell_of_heap bc4; have y4 := Lib.cell_of_heap bz4; have z4 := Lib.cell_of_heap bt4; have u4 := Lib.frozen_of_heap bz4
  have hE4 : Env w4 := LS_env hE h10 KL4
  clear x3 y3 z3 u3
  go_wp2_with fail
  have b9 := heap_fill9 bz4 (.int .i64 2) (.int .i64 R) (.int .i64 N) (.int .i64 p) (.int .i64 0) (.string ⟨t.toArray⟩) (.bool false) (.int .i64 0) (.int .i64 0)
  have k9 : Keeps (At1 (w.heap.size + 1)) w4 _ := Keeps.fillAt bz4 (.int .i64 2) (.int .i64 R) (.int .i64 N) (.int .i64 p) (.int .i64 0) (.string ⟨t.toArray⟩) (.bool false) (.int .i64 0) (.int .i64 0)
  refine bodyPost_ret (res_lcmd b9 rfl) rfl ⟨?_, ⟨v4, ?_⟩, KL4.fill9 (by omega) _ _ _ _ _ _ _ _ _⟩
  · rfl
  · simpa [Off.cmdWords] using hl4.keep1 k9 bz4 (by omega) (by decide)

set_option maxRecDepth 100000 in
set_option maxHeartbeats 4000000 in
theorem lcmd_erase (b : Nat) (v0 : Value) (ws : List (List UInt8)) (c : Off.Cmd) (w : World) (hE : Env w) (h10 : 10 ≤ b) (hl : LineIs b v0 ws w) (hin : CmdFits c) (hws : ws.length ≤ 10) (hk : c.kind = 3) :
    Calls Tryz.prog 76 #[.pointer (some ⟨b, 0, none⟩), cmdV c] w (LCmdPost b w ws c) := by
  have ⟨h1, h2, h3, h4, h5, h6, h7⟩ := hin
  have hW := Lib.hid (show ws ++ Off.cmdWords c = ws ++ Off.cmdWords c from rfl)
  have hT : Hid (Off.cmdTold c = Off.cmdTold c) := rfl
  obtain ⟨kd, ⟨R, N⟩, p, n, t, f, ⟨R2, N2⟩⟩ := c
  simp only at h1 h2 h3 h4 h5 h6 h7 hk
  subst hk
  have hlt : b < w.heap.size := heap_lt hl.1
  obtain ⟨bc0, bz0, bt0⟩ := three_boxes w (.cells #[.int .i64 3, .int .i64 R, .int .i64 N, .int .i64 p, .int .i64 n, .string ⟨t.toArray⟩, .bool f, .int .i64 R2, .int .i64 N2] 77) (.cells #[.int .i64 0, .int .i64 0, .int .i64 0, .int .i64 0, .int .i64 0, .string ⟨#[]⟩, .bool false, .int .i64 0, .int .i64 0] 77) (.cells #[.int .i64 3, .int .i64 R, .int .i64 N, .int .i64 p, .int .i64 n, .string ⟨#[]⟩, .bool false, .int .i64 0, .int .i64 0] 77)
  have KL0 : Keeps (LS b w) w (((w.alloc (.cells #[.int .i64 3, .int .i64 R, .int .i64 N, .int .i64 p, .int .i64 n, .string ⟨t.toArray⟩, .bool f, .int .i64 R2, .int .i64 N2] 77)).alloc (.cells #[.int .i64 0, .int .i64 0, .int .i64 0, .int .i64 0, .int .i64 0, .string ⟨#[]⟩, .bool false, .int .i64 0, .int .i64 0] 77)).alloc (.cells #[.int .i64 3, .int .i64 R, .int .i64 N, .int .i64 p, .int .i64 n, .string ⟨#[]⟩, .bool false, .int .i64 0, .int .i64 0] 77)) := (((Keeps.refl _ _).alloc _).alloc _).alloc _
  have hl0 := ((hl.alloc (.cells #[.int .i64 3, .int .i64 R, .int .i64 N, .int .i64 p, .int .i64 n, .string ⟨t.toArray⟩, .bool f, .int .i64 R2, .int .i64 N2] 77)).alloc (.cells #[.int .i64 0, .int .i64 0, .int .i64 0, .int .i64 0, .int .i64 0, .string ⟨#[]⟩, .bool false, .int .i64 0, .int .i64 0] 77)).alloc (.cells #[.int .i64 3, .int .i64 R, .int .i64 N, .int .i64 p, .int .i64 n, .string ⟨#[]⟩, .bool false, .int .i64 0, .int .i64 0] 77)
  go_enter Tryz.func76, Tryz.ntmps76
  go_wp2_with fail
  go_region
  go_wp2_with fail
  refine (add_any b _ 1 1 v0 (ws) [Off.sErase] _ ((hl0.alloc (.cells #[strV Off.sErase] 9)).drew) rfl (one_cell_drew _ _ (by simp)) (by simp; omega)).mono ?_
  rintro e w1 ⟨rfl, ⟨v1, hl1⟩, k1⟩
  have k1 : Keeps (LS b (World.alloc _ (.cells #[strV Off.sErase] 9))) (World.alloc _ (.cells #[strV Off.sErase] 9)) w1 := k1.of_drew
  have bc1 := k1.heap (heap_alloc_keep bc0 (.cells #[strV Off.sErase] 9)) (not_LS (heap_alloc_keep bc0 (.cells #[strV Off.sErase] 9)) (by omega) (by decide))
  have bz1 := k1.heap (heap_alloc_keep bz0 (.cells #[strV Off.sErase] 9)) (not_LS (heap_alloc_keep bz0 (.cells #[strV Off.sErase] 9)) (by omega) (by decide))
  have bt1 := k1.heap (heap_alloc_keep bt0 (.cells #[strV Off.sErase] 9)) (not_LS (heap_alloc_keep bt0 (.cells #[strV Off.sErase] 9)) (by omega) (by decide))
  have KL1 := Keeps.line (KL0.alloc _) k1
  have x1 := Lib.cell_of_heap bc1; have y1 := Lib.cell_of_heap bz1; have z1 := Lib.cell_of_heap bt1; have u1 := Lib.frozen_of_heap bz1
  have hE1 : Env w1 := LS_env hE h10 KL1
  go_wp2_with fail
  refine (lineBlock_any b v1 (ws ++ [Off.sErase]) R N _ hE1 hl1 h1 h2 (by simp; omega)).mono ?_
  rintro e w2 ⟨rfl, ⟨v2, hl2⟩, k2⟩
  have bc2 := k2.heap bc1 (not_LS bc1 (by omega) (by decide))
  have bz2 := k2.heap bz1 (not_LS bz1 (by omega) (by decide))
  have bt2 := k2.heap bt1 (not_LS bt1 (by omega) (by decide))
  have KL2 := Keeps.line KL1 k2
  have x2 := Lib.cell_of_heap bc2; have y2 := Lib.cell_of_heap bz2; have z2 := Lib.cell_of_heap bt2; have u2 := Lib.frozen_of_heap bz2
  have hE2 : Env w2 := LS_env hE h10 KL2
  clear x1 y1 z1 u1
  go_wp2_with fail
  refine (numbers_any b w2.heap.size v2 (ws ++ [Off.sErase] ++ [Off.showId ⟨R, N⟩]) [p, n] _ (hE2.alloc _) h10 (hl2.alloc (.cells #[.int .i64 p, .int .i64 n] 3)) (heap_alloc_new w2 _) (by have := heap_lt hl2.1; omega) (by simp [h5, h6]) (by simp; omega)).mono ?_
  rintro e w3 ⟨rfl, ⟨v3, hl3⟩, k3⟩
  have bc3 := k3.heap (heap_alloc_keep bc2 (.cells #[.int .i64 p, .int .i64 n] 3)) (not_LS (heap_alloc_keep bc2 (.cells #[.int .i64 p, .int .i64 n] 3)) (by omega) (by decide))
  have bz3 := k3.heap (heap_alloc_keep bz2 (.cells #[.int .i64 p, .int .i64 n] 3)) (not_LS (heap_alloc_keep bz2 (.cells #[.int .i64 p, .int .i64 n] 3)) (by omega) (by decide))
  have bt3 := k3.heap (heap_alloc_keep bt2 (.cells #[.int .i64 p, .int .i64 n] 3)) (not_LS (heap_alloc_keep bt2 (.cells #[.int .i64 p, .int .i64 n] 3)) (by omega) (by decide))
  have KL3 := Keeps.line (KL2.alloc _) k3
  have x3 := Lib.cell_of_heap bc3; have y3 := Lib.cell_of_heap bz3; have z3 := Lib.cell_of_heap bt3; have u3 := Lib.frozen_of_heap bz3
  have hE3 : Env w3 := LS_env hE h10 KL3
  clear x2 y2 z2 u2
  go_wp2_with fail
  have b9 := heap_fill9 bz3 (.int .i64 3) (.int .i64 R) (.int .i64 N) (.int .i64 p) (.int .i64 n) (.string ⟨#[]⟩) (.bool false) (.int .i64 0) (.int .i64 0)
  have k9 : Keeps (At1 (w.heap.size + 1)) w3 _ := Keeps.fillAt bz3 (.int .i64 3) (.int .i64 R) (.int .i64 N) (.int .i64 p) (.int .i64 n) (.string ⟨#[]⟩) (.bool false) (.int .i64 0) (.int .i64 0)
  refine bodyPost_ret (res_lcmd b9 rfl) rfl ⟨?_, ⟨v3, ?_⟩, KL3.fill9 (by omega) _ _ _ _ _ _ _ _ _⟩
  · rfl
  · simpa [Off.cmdWords] using hl3.keep1 k9 bz3 (by omega) (by decide)

end Go.Proofs.YtkpenijilnagjaaGreatDoor
