/- ScriptShows: the walk. -/
import Derived.Test.YtkpenijilnagjaaGreatDoorRShow
import Derived.Test.YtkpenijilnagjaaGreatDoorEvAll
namespace Go.Proofs.YtkpenijilnagjaaGreatDoor
open Go.RowKit

theorem great_is (v : Value) (l : List Off.Ev) (w : World) (hv : EvLies v l w) {b : Bool} (h : great l = b) :
    Calls Tryz.prog 13 #[v] w fun e w' => e = .returned (.bool b) ∧ Keeps No w w' := by
  rw [← h]; exact great_any v l w hv

set_option maxRecDepth 100000 in
set_option maxHeartbeats 2000000 in
theorem shows_any (v : Value) (l : List Off.Ev) (w : World) (hE : Env w) (hv : EvLies v l w) (hnum : ∀ e ∈ l, EvNums e) :
    Calls Tryz.prog 4 #[v] w fun e w' => e = .returned (.bool true) ∧ Keeps No w w' := by
  have hA := alive_any w hE
  cases hg : great l with
  | true =>
    have hG := fun w1 (h : EvLies v l w1) => great_is v l w1 h hg
    obtain ⟨va, vc, rfl, _⟩ := id hv
    clear hg
    go_enter Tryz.func4, Tryz.ntmps4
    go_wp2_with (go_at_call 9; refine hA.mono ?_; rintro e w1 ⟨rfl, k1⟩)
    refine (hG _ (hv.no k1)).mono ?_
    rintro e w2 ⟨rfl, k2⟩
    go_wp2_with fail
    go_ret
    exact ⟨rfl, k1.trans k2⟩
  | false =>
    have hG := fun w1 (h : EvLies v l w1) => great_is v l w1 h hg
    have hfew := great_few hg
    have hfit : ∀ e ∈ l, EvFits e := fun e he => (hnum e he).fits (hfew.2 e he)
    have hS := fun w1 (h : Env w1) (h2 : EvLies v l w1) => showT_any v l w1 h h2 hfit (by omega)
    have hR := fun w1 (h : Env w1) (h2 : EvLies v l w1) => refShowT_any v l w1 h h2 hfit (by omega)
    obtain ⟨va, vc, rfl, _⟩ := id hv
    clear hfew hg
    cases hs : Off.showL 0 l with
    | ok t =>
      rw [hs] at hS hR
      go_enter Tryz.func4, Tryz.ntmps4
      go_wp2_with (go_at_call 9; refine hA.mono ?_; rintro e w1 ⟨rfl, k1⟩)
      have hE1 := hE.no k1
      have hv1 := hv.no k1
      refine (hG _ hv1).mono ?_
      rintro e w2 ⟨rfl, k2⟩
      have hE2 := hE1.no k2
      have hv2 := hv1.no k2
      go_wp2_with fail
      refine (hS _ hE2 hv2).mono ?_
      rintro e w3 ⟨rfl, k3⟩
      have hE3 := hE2.no k3
      have hv3 := hv2.no k3
      go_wp2_with fail
      refine (hR _ hE3 hv3).mono ?_
      rintro e w4 ⟨rfl, k4⟩
      go_wp2_with fail
      go_ret
      exact ⟨by simp, ((k1.trans k2).trans k3).trans k4⟩
    | error q =>
      rw [hs] at hS hR
      go_enter Tryz.func4, Tryz.ntmps4
      go_wp2_with (go_at_call 9; refine hA.mono ?_; rintro e w1 ⟨rfl, k1⟩)
      have hE1 := hE.no k1
      have hv1 := hv.no k1
      refine (hG _ hv1).mono ?_
      rintro e w2 ⟨rfl, k2⟩
      have hE2 := hE1.no k2
      have hv2 := hv1.no k2
      go_wp2_with fail
      refine (hS _ hE2 hv2).mono ?_
      rintro e w3 ⟨rfl, k3⟩
      have hE3 := hE2.no k3
      have hv3 := hv2.no k3
      go_wp2_with fail
      refine (hR _ hE3 hv3).mono ?_
      rintro e w4 ⟨rfl, k4⟩
      go_wp2_with fail
      go_ret
      exact ⟨by simp, ((k1.trans k2).trans k3).trans k4⟩

end Go.Proofs.YtkpenijilnagjaaGreatDoor
