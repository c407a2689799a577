/- ScriptBack: the walk. -/
import Derived.Test.YtkpenijilnagjaaDoorEvNums
namespace Go.Proofs.YtkpenijilnagjaaDoor
open Go.RowKit

/-! the walk -/
theorem great_no (v : Value) (l : List Off.Ev) (w : World) (hv : EvLies v l w) (h : great l = false) :
    Calls Tryd.prog 6 #[v] w fun e w' => e = .returned (.bool false) ∧ Keeps No w w' := by
  rw [← h]; exact great_any v l w hv
theorem same_self {va vb : Value} {l : List Off.Ev} {w : World} (ha : EvLies va l w) (hb : EvLies vb l w) (hn : l.length ≤ 1000000) :
    Calls Tryd.prog 9 #[va, vb] w fun e w' => e = .returned (.bool true) ∧ Keeps No w w' :=
  (same_any va vb l l w ha hb hn hn).mono fun e w' ⟨he, hk⟩ => ⟨by rw [he, decide_eq_true rfl], hk⟩
theorem great_yes (v : Value) (l : List Off.Ev) (w : World) (hv : EvLies v l w) (h : great l = true) :
    Calls Tryd.prog 6 #[v] w fun e w' => e = .returned (.bool true) ∧ Keeps No w w' := by
  rw [← h]; exact great_any v l w hv

set_option maxRecDepth 100000 in
set_option maxHeartbeats 2000000 in
theorem back_oo (v : Value) (l : List Off.Ev) (s : List UInt8) (w : World) (hE : Env w) (hv : EvLies v l w) (hnum : ∀ e ∈ l, EvNums e) (hg : great l = false) (hl : s.length ≤ 3000)
    (t : List UInt8) (hs : Off.showL 0 l = .ok t) (m : List Off.Ev) (hp : Off.parseT s = .ok m) :
    Calls Tryd.prog 3 #[v, .string ⟨s.toArray⟩] w fun e w' => e = .returned (.bool true) ∧ Keeps No w w' := by
  have hA := alive_any w hE
  have hG := fun w1 (h : EvLies v l w1) => great_no v l w1 h hg
  have h1 : ¬ (3000 : Int) < (s.length : Int) := by omega
  have hfew := great_few hg
  have hfit : ∀ e ∈ l, EvFits e := fun e he => (hnum e he).fits (hfew.2 e he)
  have hsm : ∀ e ∈ l, (Off.evLine e).length ≤ 5000 := fun e he => evLine_small (hfit e he) (hfew.2 e he)
  have hS := fun w1 (h : Env w1) (h2 : EvLies v l w1) => showT_any v l w1 h h2 hfit (by omega)
  rw [hs] at hS
  have hP := fun w1 (h : Env w1) => parseT_any s w1 h (by omega) (lines_few (by omega))
  rw [hp] at hP
  have htl := showL_len hsm hs
  have hti := Off.showL_lines hs
  have hT := fun w1 (h : Env w1) => parseT_any t w1 h (by omega) (by omega)
  rw [Off.show_parse (fun e he => (hfit e he).isIn) hs] at hT
  have hm := parseT_few hp
  have hfm := parseT_fits (by omega) hp
  have hSm := fun vm w1 (h : Env w1) (h2 : EvLies vm m w1) => showT_any vm m w1 h h2 hfm (by omega)
  rw [Off.parse_ok_lines s.length (Nat.le_refl _) hp 0] at hSm
  obtain ⟨va, vc, rfl, _⟩ := id hv
  have hlen := hfew.1
  clear hs hp hfew hsm
  go_enter Tryd.func3, Tryd.ntmps3
  go_wp2_with (go_at_call 5; refine hA.mono ?_; rintro e w1 ⟨rfl, k1⟩)
  have hE1 := hE.no k1
  have hv1 := hv.no k1
  refine (hG _ hv1).mono ?_
  rintro e w2 ⟨rfl, k2⟩
  have hE2 := hE1.no k2
  have hv2 := hv1.no k2
  have K2 := k1.trans k2
  go_wp2_with fail
  refine (hS _ hE2 hv2).mono ?_
  rintro e w3 ⟨rfl, k3⟩
  have hE3 := hE2.no k3
  have hv3 := hv2.no k3
  have K3 := K2.trans k3
  clear hG hS hA
  go_wp2_with fail
  refine (hT _ hE3).mono ?_
  rintro e w4 ⟨⟨vt, rfl, hot⟩, k4⟩
  have hE4 := hE3.no k4
  have hv4 := hv3.no k4
  have hl4 := rows_lie hot
  have K4 := K3.trans k4
  clear hT
  go_wp2_with fail
  refine (same_self hl4 hv4 (by omega)).mono ?_
  rintro e w5 ⟨rfl, k5⟩
  have hE5 := hE4.no k5
  have K5 := K4.trans k5
  go_wp2_with fail
  refine (hP _ hE5).mono ?_
  rintro e w6 ⟨⟨vm, rfl, hom⟩, k6⟩
  have hE6 := hE5.no k6
  have hl6 := rows_lie hom
  have K6 := K5.trans k6
  clear hP
  go_wp2_with fail
  refine (hSm _ _ hE6 hl6).mono ?_
  rintro e w7 ⟨rfl, k7⟩
  have K7 := K6.trans k7
  go_wp2_with fail
  go_ret
  exact ⟨by simp, K7⟩

set_option maxRecDepth 100000 in
set_option maxHeartbeats 2000000 in
theorem back_oe (v : Value) (l : List Off.Ev) (s : List UInt8) (w : World) (hE : Env w) (hv : EvLies v l w) (hnum : ∀ e ∈ l, EvNums e) (hg : great l = false) (hl : s.length ≤ 3000)
    (t : List UInt8) (hs : Off.showL 0 l = .ok t) (q : Nat) (hp : Off.parseT s = .error q) :
    Calls Tryd.prog 3 #[v, .string ⟨s.toArray⟩] w fun e w' => e = .returned (.bool true) ∧ Keeps No w w' := by
  have hA := alive_any w hE
  have hG := fun w1 (h : EvLies v l w1) => great_no v l w1 h hg
  have h1 : ¬ (3000 : Int) < (s.length : Int) := by omega
  have hfew := great_few hg
  have hfit : ∀ e ∈ l, EvFits e := fun e he => (hnum e he).fits (hfew.2 e he)
  have hsm : ∀ e ∈ l, (Off.evLine e).length ≤ 5000 := fun e he => evLine_small (hfit e he) (hfew.2 e he)
  have hS := fun w1 (h : Env w1) (h2 : EvLies v l w1) => showT_any v l w1 h h2 hfit (by omega)
  rw [hs] at hS
  have hP := fun w1 (h : Env w1) => parseT_any s w1 h (by omega) (lines_few (by omega))
  rw [hp] at hP
  have htl := showL_len hsm hs
  have hti := Off.showL_lines hs
  have hT := fun w1 (h : Env w1) => parseT_any t w1 h (by omega) (by omega)
  rw [Off.show_parse (fun e he => (hfit e he).isIn) hs] at hT
  have hkp := Off.parseL_pos hp
  have hkp1 : (0 : Int) < (q : Int) := by omega
  obtain ⟨va, vc, rfl, _⟩ := id hv
  have hlen := hfew.1
  clear hs hp hfew hsm
  go_enter Tryd.func3, Tryd.ntmps3
  go_wp2_with (go_at_call 5; refine hA.mono ?_; rintro e w1 ⟨rfl, k1⟩)
  have hE1 := hE.no k1
  have hv1 := hv.no k1
  refine (hG _ hv1).mono ?_
  rintro e w2 ⟨rfl, k2⟩
  have hE2 := hE1.no k2
  have hv2 := hv1.no k2
  have K2 := k1.trans k2
  go_wp2_with fail
  refine (hS _ hE2 hv2).mono ?_
  rintro e w3 ⟨rfl, k3⟩
  have hE3 := hE2.no k3
  have hv3 := hv2.no k3
  have K3 := K2.trans k3
  clear hG hS hA
  go_wp2_with fail
  refine (hT _ hE3).mono ?_
  rintro e w4 ⟨⟨vt, rfl, hot⟩, k4⟩
  have hE4 := hE3.no k4
  have hv4 := hv3.no k4
  have hl4 := rows_lie hot
  have K4 := K3.trans k4
  clear hT
  go_wp2_with fail
  refine (same_self hl4 hv4 (by omega)).mono ?_
  rintro e w5 ⟨rfl, k5⟩
  have hE5 := hE4.no k5
  have K5 := K4.trans k5
  go_wp2_with fail
  refine (hP _ hE5).mono ?_
  rintro e w6 ⟨rfl, k6⟩
  have K6 := K5.trans k6
  go_wp2_with fail
  go_ret
  exact ⟨rfl, K6⟩

set_option maxRecDepth 100000 in
set_option maxHeartbeats 2000000 in
theorem back_eo (v : Value) (l : List Off.Ev) (s : List UInt8) (w : World) (hE : Env w) (hv : EvLies v l w) (hnum : ∀ e ∈ l, EvNums e) (hg : great l = false) (hl : s.length ≤ 3000)
    (k : Nat) (hs : Off.showL 0 l = .error k) (m : List Off.Ev) (hp : Off.parseT s = .ok m) :
    Calls Tryd.prog 3 #[v, .string ⟨s.toArray⟩] w fun e w' => e = .returned (.bool true) ∧ Keeps No w w' := by
  have hA := alive_any w hE
  have hG := fun w1 (h : EvLies v l w1) => great_no v l w1 h hg
  have h1 : ¬ (3000 : Int) < (s.length : Int) := by omega
  have hfew := great_few hg
  have hfit : ∀ e ∈ l, EvFits e := fun e he => (hnum e he).fits (hfew.2 e he)
  have hsm : ∀ e ∈ l, (Off.evLine e).length ≤ 5000 := fun e he => evLine_small (hfit e he) (hfew.2 e he)
  have hS := fun w1 (h : Env w1) (h2 : EvLies v l w1) => showT_any v l w1 h h2 hfit (by omega)
  rw [hs] at hS
  have hP := fun w1 (h : Env w1) => parseT_any s w1 h (by omega) (lines_few (by omega))
  rw [hp] at hP
  have hkl := Off.showL_lt hs
  have hkl1 : (k : Int) < (l.length : Int) := by omega
  have hm := parseT_few hp
  have hfm := parseT_fits (by omega) hp
  have hSm := fun vm w1 (h : Env w1) (h2 : EvLies vm m w1) => showT_any vm m w1 h h2 hfm (by omega)
  rw [Off.parse_ok_lines s.length (Nat.le_refl _) hp 0] at hSm
  obtain ⟨va, vc, rfl, _⟩ := id hv
  have hlen := hfew.1
  clear hs hp hfew hsm
  go_enter Tryd.func3, Tryd.ntmps3
  go_wp2_with (go_at_call 5; refine hA.mono ?_; rintro e w1 ⟨rfl, k1⟩)
  have hE1 := hE.no k1
  have hv1 := hv.no k1
  refine (hG _ hv1).mono ?_
  rintro e w2 ⟨rfl, k2⟩
  have hE2 := hE1.no k2
  have hv2 := hv1.no k2
  have K2 := k1.trans k2
  go_wp2_with fail
  refine (hS _ hE2 hv2).mono ?_
  rintro e w3 ⟨rfl, k3⟩
  have hE3 := hE2.no k3
  have hv3 := hv2.no k3
  have K3 := K2.trans k3
  clear hG hS hA
  go_wp2_with fail
  have hE5 := hE3
  have K5 := K3
  refine (hP _ hE5).mono ?_
  rintro e w6 ⟨⟨vm, rfl, hom⟩, k6⟩
  have hE6 := hE5.no k6
  have hl6 := rows_lie hom
  have K6 := K5.trans k6
  clear hP
  go_wp2_with fail
  refine (hSm _ _ hE6 hl6).mono ?_
  rintro e w7 ⟨rfl, k7⟩
  have K7 := K6.trans k7
  go_wp2_with fail
  go_ret
  exact ⟨by simp, K7⟩

set_option maxRecDepth 100000 in
set_option maxHeartbeats 2000000 in
theorem back_ee (v : Value) (l : List Off.Ev) (s : List UInt8) (w : World) (hE : Env w) (hv : EvLies v l w) (hnum : ∀ e ∈ l, EvNums e) (hg : great l = false) (hl : s.length ≤ 3000)
    (k : Nat) (hs : Off.showL 0 l = .error k) (q : Nat) (hp : Off.parseT s = .error q) :
    Calls Tryd.prog 3 #[v, .string ⟨s.toArray⟩] w fun e w' => e = .returned (.bool true) ∧ Keeps No w w' := by
  have hA := alive_any w hE
  have hG := fun w1 (h : EvLies v l w1) => great_no v l w1 h hg
  have h1 : ¬ (3000 : Int) < (s.length : Int) := by omega
  have hfew := great_few hg
  have hfit : ∀ e ∈ l, EvFits e := fun e he => (hnum e he).fits (hfew.2 e he)
  have hsm : ∀ e ∈ l, (Off.evLine e).length ≤ 5000 := fun e he => evLine_small (hfit e he) (hfew.2 e he)
  have hS := fun w1 (h : Env w1) (h2 : EvLies v l w1) => showT_any v l w1 h h2 hfit (by omega)
  rw [hs] at hS
  have hP := fun w1 (h : Env w1) => parseT_any s w1 h (by omega) (lines_few (by omega))
  rw [hp] at hP
  have hkl := Off.showL_lt hs
  have hkl1 : (k : Int) < (l.length : Int) := by omega
  have hkp := Off.parseL_pos hp
  have hkp1 : (0 : Int) < (q : Int) := by omega
  obtain ⟨va, vc, rfl, _⟩ := id hv
  have hlen := hfew.1
  clear hs hp hfew hsm
  go_enter Tryd.func3, Tryd.ntmps3
  go_wp2_with (go_at_call 5; refine hA.mono ?_; rintro e w1 ⟨rfl, k1⟩)
  have hE1 := hE.no k1
  have hv1 := hv.no k1
  refine (hG _ hv1).mono ?_
  rintro e w2 ⟨rfl, k2⟩
  have hE2 := hE1.no k2
  have hv2 := hv1.no k2
  have K2 := k1.trans k2
  go_wp2_with fail
  refine (hS _ hE2 hv2).mono ?_
  rintro e w3 ⟨rfl, k3⟩
  have hE3 := hE2.no k3
  have hv3 := hv2.no k3
  have K3 := K2.trans k3
  clear hG hS hA
  go_wp2_with fail
  have hE5 := hE3
  have K5 := K3
  refine (hP _ hE5).mono ?_
  rintro e w6 ⟨rfl, k6⟩
  have K6 := K5.trans k6
  go_wp2_with fail
  go_ret
  exact ⟨rfl, K6⟩

set_option maxRecDepth 100000 in
set_option maxHeartbeats 2000000 in
theorem back_any (v : Value) (l : List Off.Ev) (s : List UInt8) (w : World) (hE : Env w) (hv : EvLies v l w) (hnum : ∀ e ∈ l, EvNums e) :
    Calls Tryd.prog 3 #[v, .string ⟨s.toArray⟩] w fun e w' => e = .returned (.bool true) ∧ Keeps No w w' := by
  have hA := alive_any w hE
  cases hg : great l with
  | true =>
    have hG := fun w1 (h : EvLies v l w1) => great_yes v l w1 h hg
    obtain ⟨va, vc, rfl, _⟩ := id hv
    clear hg
    go_enter Tryd.func3, Tryd.ntmps3
    go_wp2_with (go_at_call 5; refine hA.mono ?_; rintro e w1 ⟨rfl, k1⟩)
    refine (hG _ (hv.no k1)).mono ?_
    rintro e w2 ⟨rfl, k2⟩
    go_wp2_with fail
    go_ret
    exact ⟨rfl, k1.trans k2⟩
  | false =>
    by_cases hl : s.length ≤ 3000
    · cases hs : Off.showL 0 l with
      | ok t =>
        cases hp : Off.parseT s with
        | ok m => exact back_oo v l s w hE hv hnum hg hl t hs m hp
        | error q => exact back_oe v l s w hE hv hnum hg hl t hs q hp
      | error k =>
        cases hp : Off.parseT s with
        | ok m => exact back_eo v l s w hE hv hnum hg hl k hs m hp
        | error q => exact back_ee v l s w hE hv hnum hg hl k hs q hp
    · have hG := fun w1 (h : EvLies v l w1) => great_no v l w1 h hg
      have h1 : (3000 : Int) < (s.length : Int) := by omega
      obtain ⟨va, vc, rfl, _⟩ := id hv
      clear hg
      go_enter Tryd.func3, Tryd.ntmps3
      go_wp2_with (go_at_call 5; refine hA.mono ?_; rintro e w1 ⟨rfl, k1⟩)
      refine (hG _ (hv.no k1)).mono ?_
      rintro e w2 ⟨rfl, k2⟩
      go_wp2_with fail
      go_ret
      exact ⟨rfl, k1.trans k2⟩

end Go.Proofs.YtkpenijilnagjaaDoor
