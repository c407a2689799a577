/- ScriptJoins: the walk. -/
import Derived.Test.YtkpenijilnagjaaDoorEvNums
namespace Go.Proofs.YtkpenijilnagjaaDoor
open Go.RowKit

/-- append(x, y...) of two rows of events, behind a guard that holds -/
theorem append_events {ops : Array Oper} {rest : List Oper} {o : Oper} {a : Act} {w : World} {Q : Exit → Act → World → Prop} (hw : Region.wanted o (yielded ops a.tmps) = true) (s x : Operand)
    (ho : o.op = .call { callee := .builtin .append, args := #[s, x], argTypes := #[22, 22] }) (base base2 : Nat) (vx vy : Value) (lx ly : List Off.Ev)
    (hs : a.eval s = vx) (hown : w.ownsRow base 38 14 vx lx.length (lx.flatMap evCells)) (hx : a.eval x = vy) (hoy : w.ownsRow base2 38 14 vy ly.length (ly.flatMap evCells))
    (hn : lx.length + ly.length ≤ 100000)
    (h : ∀ v' w', EvLies v' (lx ++ ly) w' → w.grownBy w' vx.ownBlock → wpList Tryd.prog ops Q rest (a.put o.dst v') w') : wpList Tryd.prog ops Q (o :: rest) a w := by
  obtain ⟨i0, hi, hz0, hz1, hz2⟩ := info_parts infoEv
  obtain ⟨base', hown', hb'⟩ : ∃ base', w.ownsRow base' 38 14 vx lx.length (lx.flatMap evCells) ∧ base' ≤ w.heap.size := by
    rcases hown.2 with hnil | ⟨g, cap, cur, hv, hge, hgg, _⟩
    · exact ⟨0, ⟨hown.1, .inl hnil⟩, Nat.zero_le _⟩
    · exact ⟨base, hown, by have := heap_lt hgg; omega⟩
  refine BigFrame.wpList_want hw fun K hK => ?_
  have hoy' := hoy
  rcases hoy.2 with ⟨rfl, hl⟩ | ⟨g, cap, cur, rfl, _⟩
  · have hl0 : ly = [] := List.eq_nil_of_length_eq_zero hl
    subst hl0
    have hrun := run_append_owned_none (P := Tryd.prog) (w := w) base 22 o.type 38 i0 14 Tryd.underlying22 hi vx lx.length (lx.flatMap evCells) hown
    unfold Oper.wp
    simp [execOp, ho, resolve, invoke, builtin, hs, hx, hrun, Result.andThen]
    exact hK _ _ (h _ _ (by rw [List.append_nil]; exact rows_lie hown) ⟨rfl, rfl, rfl, Nat.le_refl _, fun _ _ _ => rfl⟩)
  · refine wp_append_own w s x 22 ho base' 38 i0 _ 14 120 Tryd.underlying22 hi hz0 hz1 hz2 rfl (by decide) vx lx.length (lx.flatMap evCells) hs hown' ⟨g, 0, none⟩ ly.length cap (ly.flatMap evCells) hx (flat_len ly) ?_ ?_ ?_ ?_ hb' ?_
    · exact hoy'.cells (g := g) rfl
    · intro u hu
      obtain ⟨e, _, hu⟩ := List.mem_flatMap.1 hu
      exact List.all_eq_true.1 (show (evCells e).all (·.oneCell') = true from rfl) u hu
    · unfold maxLen; omega
    · omega
    · intro v' w' hown2 hg _
      refine hK _ _ (h v' w' (rows_lie (base := base') ?_) hg)
      rw [List.length_append, List.flatMap_append]
      exact hown2

set_option maxRecDepth 100000 in
set_option maxHeartbeats 2000000 in
theorem joins_any (a b : List UInt8) (w : World) (hE : Env w) :
    Calls Tryd.prog 4 #[.string ⟨a.toArray⟩, .string ⟨b.toArray⟩] w fun e w' => e = .returned (.bool true) ∧ Keeps No w w' := by
  have hA := alive_any w hE
  by_cases ha : 2000 < a.length
  · have h1 : (2000 : Int) < (a.length : Int) := by omega
    go_enter Tryd.func4, Tryd.ntmps4
    go_wp2_with (go_at_call 5; refine hA.mono ?_; rintro e w1 ⟨rfl, k1⟩)
    all_goals (go_ret; exact ⟨rfl, k1⟩)
  by_cases hb : 2000 < b.length
  · have h1 : ¬ (2000 : Int) < (a.length : Int) := by omega
    have h2 : (2000 : Int) < (b.length : Int) := by omega
    go_enter Tryd.func4, Tryd.ntmps4
    go_wp2_with (go_at_call 5; refine hA.mono ?_; rintro e w1 ⟨rfl, k1⟩)
    all_goals (go_ret; exact ⟨rfl, k1⟩)
  have h1 : ¬ (2000 : Int) < (a.length : Int) := by omega
  have h2 : ¬ (2000 : Int) < (b.length : Int) := by omega
  have hm : ¬ 9223372036854775807 < a.length + b.length := by omega
  have pA := fun w1 (h : Env w1) => parseT_any a w1 h (by omega) (lines_few (by omega))
  have pB := fun w1 (h : Env w1) => parseT_any b w1 h (by omega) (lines_few (by omega))
  have pC := fun w1 (h : Env w1) => parseT_any (a ++ b) w1 h (by simp; omega) (lines_few (by simp; omega))
  have hcat : ByteArray.mk a.toArray ++ ByteArray.mk b.toArray = ByteArray.mk (a ++ b).toArray := by rw [bytes_app]; simp
  cases hx : Off.parseT a with
  | error i =>
    rw [hx] at pA
    go_enter Tryd.func4, Tryd.ntmps4
    go_wp2_with (go_at_call 5; refine hA.mono ?_; rintro e w1 ⟨rfl, k1⟩)
    have hE1 := hE.no k1
    refine (pA _ hE1).mono ?_
    rintro e w2 ⟨rfl, k2⟩
    have hE2 := hE1.no k2
    go_wp2_with fail
    refine (pB _ hE2).mono ?_
    rintro e w3 h3
    obtain ⟨⟨xa, xn, xc, xk, xg, rfl⟩, k3⟩ := h3.shape
    have hE3 := hE2.no k3
    clear h3
    go_wp2_with fail
    refine (pC _ hE3).mono ?_
    rintro e w4 h4
    obtain ⟨⟨ya, yn, yc, yk, yg, rfl⟩, k4⟩ := h4.shape
    clear h4
    go_wp2_with fail
    go_ret
    exact ⟨rfl, ((k1.trans k2).trans k3).trans k4⟩
  | ok x =>
    rw [hx] at pA
    have hxn := parseT_few hx
    have happ := Off.parseT_append a.length (b := b) (Nat.le_refl _) hx
    cases hy : Off.parseT b with
    | error m =>
      rw [hy] at pB happ
      simp only at happ
      rw [happ] at pC
      have hmn := parseT_err_le hy
      clear hx hy happ
      go_enter Tryd.func4, Tryd.ntmps4
      go_wp2_with (go_at_call 5; refine hA.mono ?_; rintro e w1 ⟨rfl, k1⟩)
      have hE1 := hE.no k1
      refine (pA _ hE1).mono ?_
      rintro e w2 ⟨⟨v, rfl, ho⟩, k2⟩
      obtain ⟨va, vc, rfl, _⟩ := rows_lie ho
      have hE2 := hE1.no k2
      go_wp2_with fail
      refine (pB _ hE2).mono ?_
      rintro e w3 ⟨rfl, k3⟩
      have hE3 := hE2.no k3
      go_wp2_with fail
      refine (pC _ hE3).mono ?_
      rintro e w4 ⟨rfl, k4⟩
      have hw : ((x.length + m : Nat) : Int) = (x.length : Int) + (m : Int) := by omega
      rw [hw]
      go_wp2_with fail
      go_ret
      exact ⟨rfl, ((k1.trans k2).trans k3).trans k4⟩
    | ok y =>
      rw [hy] at pB happ
      simp only at happ
      rw [happ] at pC
      have hyn := parseT_few hy
      clear hx hy happ
      go_enter Tryd.func4, Tryd.ntmps4
      go_wp2_with (go_at_call 5; refine hA.mono ?_; rintro e w1 ⟨rfl, k1⟩)
      have hE1 := hE.no k1
      refine (pA _ hE1).mono ?_
      rintro e w2 ⟨⟨vx, rfl, hox⟩, k2⟩
      have hE2 := hE1.no k2
      go_wp2_with fail
      refine (pB _ hE2).mono ?_
      rintro e w3 ⟨⟨vy, rfl, hoy⟩, k3⟩
      have hE3 := hE2.no k3
      go_wp2_with fail
      refine (pC _ hE3).mono ?_
      rintro e w4 ⟨⟨vz, rfl, hoz⟩, k4⟩
      have hE4 := hE3.no k4
      have K4 := ((k1.trans k2).trans k3).trans k4
      have hox4 := k4.owns (fun _ e => e.elim) (k3.owns (fun _ e => e.elim) hox)
      have hoy4 := k4.owns (fun _ e => e.elim) hoy
      have hz4 := rows_lie hoz
      have hs2 := k2.size
      have hs3 := k3.size
      have hs4 := k4.size
      have hox3 := k3.owns (fun _ e => e.elim) hox
      have hs1 := k1.size
      clear pA pB pC hA hcat
      go_wp2_with (first
        | (at_builtin; refine append_events (by first | rfl | simp [Region.wanted, yielded]) _ _ rfl _ _ _ _ x y rfl hox4 rfl hoy4 (by omega) ?_))
      intro v' w5 hlv hg
      have kg : Keeps (fun k => vx.ownBlock = some k) w4 w5 := ⟨hg.os, hg.tape, hg.output, hg.size, fun k hk hn => hg.block k hk (fun e => hn e.symm)⟩
      have hz5 := rows_lie (kg.owns (fun b e => by have := (hox3.lt b e).2; omega) hoz)
      have K5 : Keeps No w w5 := K4.step kg fun k e hlt => by have := (hox.lt k e).1; omega
      go_wp2_with (go_at_call 9; refine (same_any vz v' (x ++ y) (x ++ y) w5 hz5 hlv (by simp; omega) (by simp; omega)).mono ?_; rw [decide_eq_true rfl]; rintro e w6 ⟨rfl, k6⟩)
      go_ret
      exact ⟨rfl, K5.trans k6⟩

end Go.Proofs.YtkpenijilnagjaaDoor
