/- The word of a command that tells a block alone; whether an event's command can be written. -/
import Derived.Test.YtkpenijilnagjaaGreatDoorEvBase
namespace Go.Proofs.YtkpenijilnagjaaGreatDoor
open Go.RowKit

def pws : List (List UInt8) := [Off.sJoin, Off.sIndent, Off.sOutdent, Off.sUp, Off.sDown, Off.sTrashC, Off.sRestore]

theorem plainW_at (c : Off.Cmd) (k : Nat) (hk : k < 7) (h : c.kind = 5 + k) : Off.plainW c = pws.getD k [] := by
  have : k = 0 ∨ k = 1 ∨ k = 2 ∨ k = 3 ∨ k = 4 ∨ k = 5 ∨ k = 6 := by omega
  unfold Off.plainW
  rcases this with rfl | rfl | rfl | rfl | rfl | rfl | rfl <;> rw [h] <;> rfl

theorem plainW_out (c : Off.Cmd) (h : ∀ k : Nat, k < 7 → c.kind ≠ 5 + k) : Off.plainW c = if c.kind ≠ 12 then [63] else if c.flag then Off.sFold else Off.sUnfold := by
  unfold Off.plainW
  have h0 := h 0 (by omega); have h1 := h 1 (by omega); have h2 := h 2 (by omega); have h3 := h 3 (by omega); have h4 := h 4 (by omega); have h5 := h 5 (by omega); have h6 := h 6 (by omega)
  rw [if_neg (by simpa using h0), if_neg (by simpa using h1), if_neg (by simpa using h2), if_neg (by simpa using h3), if_neg (by simpa using h4), if_neg (by simpa using h5), if_neg (by simpa using h6)]

set_option maxRecDepth 100000 in
set_option maxHeartbeats 2000000 in
theorem plain_any (c : Off.Cmd) (w : World) :
    Calls Tryz.prog 121 #[cmdV c] w fun e w' => e = .returned (.string ⟨(Off.plainW c).toArray⟩) ∧ Keeps No w w' := by
  have hP1 : ∀ k : Nat, k < 7 → c.kind = 5 + k → Hid (Off.plainW c = pws.getD k []) := fun k hk h => plainW_at c k hk h
  have hP2 : (∀ k : Nat, k < 7 → c.kind ≠ 5 + k) → Hid (Off.plainW c = if c.kind ≠ 12 then [63] else if c.flag then Off.sFold else Off.sUnfold) := fun h => plainW_out c h
  obtain ⟨kd, ⟨R, N⟩, p, n, t, f, ⟨R2, N2⟩⟩ := c
  simp only at hP1 hP2
  have b1 := heap_alloc_keep (heap_alloc_new w (.cells #[.int .i64 kd, .int .i64 R, .int .i64 N, .int .i64 p, .int .i64 n, .string ⟨t.toArray⟩, .bool f, .int .i64 R2, .int .i64 N2] 77))
    (.cells #[.string ⟨#[106, 111, 105, 110]⟩, .string ⟨#[105, 110, 100, 101, 110, 116]⟩, .string ⟨#[111, 117, 116, 100, 101, 110, 116]⟩, .string ⟨#[117, 112]⟩, .string ⟨#[100, 111, 119, 110]⟩, .string ⟨#[116, 114, 97, 115, 104]⟩, .string ⟨#[114, 101, 115, 116, 111, 114, 101]⟩] 9)
  have b2 := (two_boxes w (.cells #[.int .i64 kd, .int .i64 R, .int .i64 N, .int .i64 p, .int .i64 n, .string ⟨t.toArray⟩, .bool f, .int .i64 R2, .int .i64 N2] 77)
    (.cells #[.string ⟨#[106, 111, 105, 110]⟩, .string ⟨#[105, 110, 100, 101, 110, 116]⟩, .string ⟨#[111, 117, 116, 100, 101, 110, 116]⟩, .string ⟨#[117, 112]⟩, .string ⟨#[100, 111, 119, 110]⟩, .string ⟨#[116, 114, 97, 115, 104]⟩, .string ⟨#[114, 101, 115, 116, 111, 114, 101]⟩] 9)).2
  go_enter Tryz.func121, Tryz.ntmps121
  go_wp2
  generalize hw1 : (w.alloc _).alloc _ = w1 at b1 b2 ⊢
  have K1 : Keeps No w w1 := by rw [← hw1]; exact ((Keeps.refl _ _).alloc _).alloc _
  clear hw1
  go_loopw [7] (fun i wr => ∃ k : Nat, k ≤ 7 ∧ i = .int .i64 k ∧ Keeps No w1 wr ∧ ∀ j : Nat, j < k → kd ≠ 5 + j) (fun i _ => 7 - (intOf i).toNat)
  case atStart => exact ⟨0, by omega, rfl, Keeps.refl _ _, fun j hj => by omega⟩
  case round =>
    obtain ⟨k, hk, rfl, kr, hne⟩ := hrel
    have c1 := Lib.cell_of_heap (kr.heap b1 id)
    have c2 := Lib.cell_of_heap (kr.heap b2 id)
    have cS : ∀ l d os, Calls Tryz.prog 159 #[.string ⟨l.toArray⟩] (Sort.grow (redrawn wr d) os) fun e w'' => e = .returned (.int .i64 (Off.simple l)) ∧ ∃ p : Regrown, w'' = Sort.grow (redrawn wr p.d) p.os :=
      fun l d os => calls_regrown ((simple_any l _).mono fun e w' ⟨he, hw⟩ => ⟨he, hw ▸ Keeps.refl _ _⟩)
    have ck := c1 0
    have cr := cell_regrown (show wr.cell? ⟨w.heap.size, 0, none⟩ = some (.int .i64 kd) from ck)
    have hk7 : k = 0 ∨ k = 1 ∨ k = 2 ∨ k = 3 ∨ k = 4 ∨ k = 5 ∨ k = 6 ∨ k = 7 := by omega
    rcases hk7 with rfl | rfl | rfl | rfl | rfl | rfl | rfl | rfl
    · have hs : Off.simple [106, 111, 105, 110] = 5 := rfl
      have cw : wr.cell? ⟨w.heap.size + 1, 0, none⟩ = some (.string ⟨#[106, 111, 105, 110]⟩) := c2 0
      clear c1 c2 ck
      by_cases he : kd = 5
      · have hp := hP1 0 (by omega) (by omega)
        have hb : ((5 : Int) == kd) = true := by rw [he]; rfl
        have hp' : Hid (_ = _) := hp
        clear hP1 hP2 hne he hp
        go_wp2
        refine wp_region_quiet_below (by kernel_rfl) (by kernel_rfl) ?_
        repeat (quiet_step (exact cS _ _ _))
        refine wpQuiet_nil ?_
        intro _ hw'
        obtain ⟨⟨dq, osq⟩, hw''⟩ := hw'
        subst hw''
        go_wp2
        go_ret
        exact ⟨by rw [hp'.out]; rfl, (K1.no kr).no (keeps_regrown wr dq osq)⟩
      · have hb : ((5 : Int) == kd) = false := by rw [beq_eq_false_iff_ne]; intro e; exact he e.symm
        have he' := Lib.hid he
        have hne' := Lib.hid hne
        clear hP1 hP2 hne he
        go_wp2
        refine wp_region_quiet_below (by kernel_rfl) (by kernel_rfl) ?_
        repeat (quiet_step (exact cS _ _ _))
        refine wpQuiet_nil ?_
        intro _ hw'
        obtain ⟨⟨dq, osq⟩, hw''⟩ := hw'
        subst hw''
        go_wp2
        go_roundw
        case rel =>
          refine ⟨1, by omega, by go_num, kr.no (keeps_regrown wr dq osq), fun j hj => ?_⟩
          by_cases hj' : j < 0
          · exact hne'.out j hj'
          · have : j = 0 := by omega
            subst this; exact he'.out
        case measure => simp [intOf]
    · have hs : Off.simple [105, 110, 100, 101, 110, 116] = 6 := rfl
      have cw : wr.cell? ⟨w.heap.size + 1, 1, none⟩ = some (.string ⟨#[105, 110, 100, 101, 110, 116]⟩) := c2 1
      clear c1 c2 ck
      by_cases he : kd = 6
      · have hp := hP1 1 (by omega) (by omega)
        have hb : ((6 : Int) == kd) = true := by rw [he]; rfl
        have hp' : Hid (_ = _) := hp
        clear hP1 hP2 hne he hp
        go_wp2
        refine wp_region_quiet_below (by kernel_rfl) (by kernel_rfl) ?_
        repeat (quiet_step (exact cS _ _ _))
        refine wpQuiet_nil ?_
        intro _ hw'
        obtain ⟨⟨dq, osq⟩, hw''⟩ := hw'
        subst hw''
        go_wp2
        go_ret
        exact ⟨by rw [hp'.out]; rfl, (K1.no kr).no (keeps_regrown wr dq osq)⟩
      · have hb : ((6 : Int) == kd) = false := by rw [beq_eq_false_iff_ne]; intro e; exact he e.symm
        have he' := Lib.hid he
        have hne' := Lib.hid hne
        clear hP1 hP2 hne he
        go_wp2
        refine wp_region_quiet_below (by kernel_rfl) (by kernel_rfl) ?_
        repeat (quiet_step (exact cS _ _ _))
        refine wpQuiet_nil ?_
        intro _ hw'
        obtain ⟨⟨dq, osq⟩, hw''⟩ := hw'
        subst hw''
        go_wp2
        go_roundw
        case rel =>
          refine ⟨2, by omega, by go_num, kr.no (keeps_regrown wr dq osq), fun j hj => ?_⟩
          by_cases hj' : j < 1
          · exact hne'.out j hj'
          · have : j = 1 := by omega
            subst this; exact he'.out
        case measure => simp [intOf]
    · have hs : Off.simple [111, 117, 116, 100, 101, 110, 116] = 7 := rfl
      have cw : wr.cell? ⟨w.heap.size + 1, 2, none⟩ = some (.string ⟨#[111, 117, 116, 100, 101, 110, 116]⟩) := c2 2
      clear c1 c2 ck
      by_cases he : kd = 7
      · have hp := hP1 2 (by omega) (by omega)
        have hb : ((7 : Int) == kd) = true := by rw [he]; rfl
        have hp' : Hid (_ = _) := hp
        clear hP1 hP2 hne he hp
        go_wp2
        refine wp_region_quiet_below (by kernel_rfl) (by kernel_rfl) ?_
        repeat (quiet_step (exact cS _ _ _))
        refine wpQuiet_nil ?_
        intro _ hw'
        obtain ⟨⟨dq, osq⟩, hw''⟩ := hw'
        subst hw''
        go_wp2
        go_ret
        exact ⟨by rw [hp'.out]; rfl, (K1.no kr).no (keeps_regrown wr dq osq)⟩
      · have hb : ((7 : Int) == kd) = false := by rw [beq_eq_false_iff_ne]; intro e; exact he e.symm
        have he' := Lib.hid he
        have hne' := Lib.hid hne
        clear hP1 hP2 hne he
        go_wp2
        refine wp_region_quiet_below (by kernel_rfl) (by kernel_rfl) ?_
        repeat (quiet_step (exact cS _ _ _))
        refine wpQuiet_nil ?_
        intro _ hw'
        obtain ⟨⟨dq, osq⟩, hw''⟩ := hw'
        subst hw''
        go_wp2
        go_roundw
        case rel =>
          refine ⟨3, by omega, by go_num, kr.no (keeps_regrown wr dq osq), fun j hj => ?_⟩
          by_cases hj' : j < 2
          · exact hne'.out j hj'
          · have : j = 2 := by omega
            subst this; exact he'.out
        case measure => simp [intOf]
    · have hs : Off.simple [117, 112] = 8 := rfl
      have cw : wr.cell? ⟨w.heap.size + 1, 3, none⟩ = some (.string ⟨#[117, 112]⟩) := c2 3
      clear c1 c2 ck
      by_cases he : kd = 8
      · have hp := hP1 3 (by omega) (by omega)
        have hb : ((8 : Int) == kd) = true := by rw [he]; rfl
        have hp' : Hid (_ = _) := hp
        clear hP1 hP2 hne he hp
        go_wp2
        refine wp_region_quiet_below (by kernel_rfl) (by kernel_rfl) ?_
        repeat (quiet_step (exact cS _ _ _))
        refine wpQuiet_nil ?_
        intro _ hw'
        obtain ⟨⟨dq, osq⟩, hw''⟩ := hw'
        subst hw''
        go_wp2
        go_ret
        exact ⟨by rw [hp'.out]; rfl, (K1.no kr).no (keeps_regrown wr dq osq)⟩
      · have hb : ((8 : Int) == kd) = false := by rw [beq_eq_false_iff_ne]; intro e; exact he e.symm
        have he' := Lib.hid he
        have hne' := Lib.hid hne
        clear hP1 hP2 hne he
        go_wp2
        refine wp_region_quiet_below (by kernel_rfl) (by kernel_rfl) ?_
        repeat (quiet_step (exact cS _ _ _))
        refine wpQuiet_nil ?_
        intro _ hw'
        obtain ⟨⟨dq, osq⟩, hw''⟩ := hw'
        subst hw''
        go_wp2
        go_roundw
        case rel =>
          refine ⟨4, by omega, by go_num, kr.no (keeps_regrown wr dq osq), fun j hj => ?_⟩
          by_cases hj' : j < 3
          · exact hne'.out j hj'
          · have : j = 3 := by omega
            subst this; exact he'.out
        case measure => simp [intOf]
    · have hs : Off.simple [100, 111, 119, 110] = 9 := rfl
      have cw : wr.cell? ⟨w.heap.size + 1, 4, none⟩ = some (.string ⟨#[100, 111, 119, 110]⟩) := c2 4
      clear c1 c2 ck
      by_cases he : kd = 9
      · have hp := hP1 4 (by omega) (by omega)
        have hb : ((9 : Int) == kd) = true := by rw [he]; rfl
        have hp' : Hid (_ = _) := hp
        clear hP1 hP2 hne he hp
        go_wp2
        refine wp_region_quiet_below (by kernel_rfl) (by kernel_rfl) ?_
        repeat (quiet_step (exact cS _ _ _))
        refine wpQuiet_nil ?_
        intro _ hw'
        obtain ⟨⟨dq, osq⟩, hw''⟩ := hw'
        subst hw''
        go_wp2
        go_ret
        exact ⟨by rw [hp'.out]; rfl, (K1.no kr).no (keeps_regrown wr dq osq)⟩
      · have hb : ((9 : Int) == kd) = false := by rw [beq_eq_false_iff_ne]; intro e; exact he e.symm
        have he' := Lib.hid he
        have hne' := Lib.hid hne
        clear hP1 hP2 hne he
        go_wp2
        refine wp_region_quiet_below (by kernel_rfl) (by kernel_rfl) ?_
        repeat (quiet_step (exact cS _ _ _))
        refine wpQuiet_nil ?_
        intro _ hw'
        obtain ⟨⟨dq, osq⟩, hw''⟩ := hw'
        subst hw''
        go_wp2
        go_roundw
        case rel =>
          refine ⟨5, by omega, by go_num, kr.no (keeps_regrown wr dq osq), fun j hj => ?_⟩
          by_cases hj' : j < 4
          · exact hne'.out j hj'
          · have : j = 4 := by omega
            subst this; exact he'.out
        case measure => simp [intOf]
    · have hs : Off.simple [116, 114, 97, 115, 104] = 10 := rfl
      have cw : wr.cell? ⟨w.heap.size + 1, 5, none⟩ = some (.string ⟨#[116, 114, 97, 115, 104]⟩) := c2 5
      clear c1 c2 ck
      by_cases he : kd = 10
      · have hp := hP1 5 (by omega) (by omega)
        have hb : ((10 : Int) == kd) = true := by rw [he]; rfl
        have hp' : Hid (_ = _) := hp
        clear hP1 hP2 hne he hp
        go_wp2
        refine wp_region_quiet_below (by kernel_rfl) (by kernel_rfl) ?_
        repeat (quiet_step (exact cS _ _ _))
        refine wpQuiet_nil ?_
        intro _ hw'
        obtain ⟨⟨dq, osq⟩, hw''⟩ := hw'
        subst hw''
        go_wp2
        go_ret
        exact ⟨by rw [hp'.out]; rfl, (K1.no kr).no (keeps_regrown wr dq osq)⟩
      · have hb : ((10 : Int) == kd) = false := by rw [beq_eq_false_iff_ne]; intro e; exact he e.symm
        have he' := Lib.hid he
        have hne' := Lib.hid hne
        clear hP1 hP2 hne he
        go_wp2
        refine wp_region_quiet_below (by kernel_rfl) (by kernel_rfl) ?_
        repeat (quiet_step (exact cS _ _ _))
        refine wpQuiet_nil ?_
        intro _ hw'
        obtain ⟨⟨dq, osq⟩, hw''⟩ := hw'
        subst hw''
        go_wp2
        go_roundw
        case rel =>
          refine ⟨6, by omega, by go_num, kr.no (keeps_regrown wr dq osq), fun j hj => ?_⟩
          by_cases hj' : j < 5
          · exact hne'.out j hj'
          · have : j = 5 := by omega
            subst this; exact he'.out
        case measure => simp [intOf]
    · have hs : Off.simple [114, 101, 115, 116, 111, 114, 101] = 11 := rfl
      have cw : wr.cell? ⟨w.heap.size + 1, 6, none⟩ = some (.string ⟨#[114, 101, 115, 116, 111, 114, 101]⟩) := c2 6
      clear c1 c2 ck
      by_cases he : kd = 11
      · have hp := hP1 6 (by omega) (by omega)
        have hb : ((11 : Int) == kd) = true := by rw [he]; rfl
        have hp' : Hid (_ = _) := hp
        clear hP1 hP2 hne he hp
        go_wp2
        refine wp_region_quiet_below (by kernel_rfl) (by kernel_rfl) ?_
        repeat (quiet_step (exact cS _ _ _))
        refine wpQuiet_nil ?_
        intro _ hw'
        obtain ⟨⟨dq, osq⟩, hw''⟩ := hw'
        subst hw''
        go_wp2
        go_ret
        exact ⟨by rw [hp'.out]; rfl, (K1.no kr).no (keeps_regrown wr dq osq)⟩
      · have hb : ((11 : Int) == kd) = false := by rw [beq_eq_false_iff_ne]; intro e; exact he e.symm
        have he' := Lib.hid he
        have hne' := Lib.hid hne
        clear hP1 hP2 hne he
        go_wp2
        refine wp_region_quiet_below (by kernel_rfl) (by kernel_rfl) ?_
        repeat (quiet_step (exact cS _ _ _))
        refine wpQuiet_nil ?_
        intro _ hw'
        obtain ⟨⟨dq, osq⟩, hw''⟩ := hw'
        subst hw''
        go_wp2
        go_roundw
        case rel =>
          refine ⟨7, by omega, by go_num, kr.no (keeps_regrown wr dq osq), fun j hj => ?_⟩
          by_cases hj' : j < 6
          · exact hne'.out j hj'
          · have : j = 6 := by omega
            subst this; exact he'.out
        case measure => simp [intOf]
    · have hp := hP2 (fun j hj => hne j (by omega))
      have hp' : Hid (_ = _) := hp
      have c5 := c1 5
      have ck' : wr.cell? ⟨w.heap.size, 0, none⟩ = some (.int .i64 kd) := ck
      have c5' : wr.cell? ⟨w.heap.size, 5, none⟩ = some (.string ⟨t.toArray⟩) := c5
      have c6' : wr.cell? ⟨w.heap.size, 6, none⟩ = some (.bool f) := c1 6
      clear hP1 hP2 hne hp c1 c2 ck c5 cS cr
      by_cases he : kd = 12
      · have hb : (kd != 12) = false := by rw [he]; rfl
        have he' := Lib.hid he
        clear he
        cases f
        all_goals
          go_wp2
          go_ret
          exact ⟨by rw [hp'.out, if_neg (fun h => h he'.out)]; rfl, K1.no kr⟩
      · have hb : (kd != 12) = true := by simpa using he
        have he' := Lib.hid he
        clear he
        go_wp2
        go_ret
        exact ⟨by rw [hp'.out, if_pos he'.out]; rfl, K1.no kr⟩

end Go.Proofs.YtkpenijilnagjaaGreatDoor
