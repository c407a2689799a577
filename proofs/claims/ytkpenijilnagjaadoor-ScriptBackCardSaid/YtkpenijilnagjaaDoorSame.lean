/- same: two rows of events, compared. -/
import Derived.Test.YtkpenijilnagjaaDoorShowAll
namespace Go.Proofs.YtkpenijilnagjaaDoor
open Go.RowKit

theorem lies_cells {v : Value} {l : List Off.Ev} {w : World} (h : EvLies v l w) {k : Nat} (hk : k < l.length) :
    ∃ g o c, v = .slice (some ⟨g, o, none⟩) l.length c ∧ ∀ i, i < 14 → w.cell? ⟨g, o + k * 14 + i, none⟩ = (evCells l[k])[i]? := by
  obtain ⟨a, c, rfl, h⟩ := h
  obtain ⟨g, o, rfl, hg, hc⟩ := h (fun e => by subst e; simp at hk)
  refine ⟨g, o, c, rfl, fun i hi => ?_⟩
  have h1 : i < (evCells l[k]).length := by rw [evCells_len]; exact hi
  rw [Nat.add_assoc, hc (k * 14 + i) ((evCells l[k])[i]'h1) ((flat_at l k i hk hi).trans (List.getElem?_eq_getElem h1))]
  exact (List.getElem?_eq_getElem h1).symm

theorem evCells_inj {a b : Off.Ev} (h : evSame a b = true) : a = b := by unfold evSame at h; simpa using h

set_option maxRecDepth 100000 in
set_option maxHeartbeats 2000000 in
theorem same_any (va vb : Value) (la lb : List Off.Ev) (w : World) (ha : EvLies va la w) (hb : EvLies vb lb w) (hna : la.length ≤ 1000000) (hnb : lb.length ≤ 1000000) :
    Calls Tryd.prog 9 #[va, vb] w fun e w' => e = .returned (.bool (decide (la = lb))) ∧ Keeps No w w' := by
  have ha' := ha
  have hb' := hb
  obtain ⟨xa, ca, rfl, _⟩ := ha
  obtain ⟨xb, cb, rfl, _⟩ := hb
  by_cases hn : la.length = lb.length
  · have hn1 : ((la.length : Int) != (lb.length : Int)) = false := by simp [hn]
    have hn2 : ((la.length : Int) == (lb.length : Int)) = true := by simp [hn]
    have gE := guardEv
    have qE := eqEvMax
    go_enter Tryd.func9, Tryd.ntmps9
    go_wp2
    go_loopw [5] (fun i wr => ∃ k : Nat, k ≤ la.length ∧ i = .int .i64 k ∧ Hid (la.take k = lb.take k) ∧ Keeps No w wr) (fun i _ => la.length - (intOf i).toNat)
    case atStart => exact ⟨0, Nat.zero_le _, rfl, rfl, Keeps.refl _ _⟩
    case round =>
      obtain ⟨k, hk, rfl, hT, kr⟩ := hrel
      by_cases hlt : k < la.length
      · have hlt2 : k < lb.length := by omega
        obtain ⟨g, o, c, h1, hc1⟩ := lies_cells (ha'.no kr) hlt
        obtain ⟨g2, o2, c2, h2, hc2⟩ := lies_cells (hb'.no kr) hlt2
        simp only [Value.slice.injEq, true_and] at h1 h2
        obtain ⟨rfl, rfl⟩ := h1
        obtain ⟨rfl, rfl⟩ := h2
        have hyes : evSame (la[k]'hlt) (lb[k]'hlt2) = true → Hid (la.take (k + 1) = lb.take (k + 1)) := fun h => by
          have := evCells_inj h
          refine Lib.hid ?_
          rw [List.take_succ_eq_append_getElem hlt, List.take_succ_eq_append_getElem hlt2, hT.out, this]
        have hno : evSame (la[k]'hlt) (lb[k]'hlt2) = false → Hid (decide (la = lb) = false) := fun h => Lib.hid (decide_eq_false fun e => by subst e; simp [evSame] at h)
        clear hT ha' hb'
        generalize la[k]'hlt = ea at hc1 hyes hno
        generalize lb[k]'hlt2 = eb at hc2 hyes hno
        obtain ⟨kd, en, eto, ek, ef, ⟨ck, ⟨R, N⟩, pp, n, tx, f, ⟨R2, N2⟩⟩⟩ := ea
        obtain ⟨kd', en', eto', ek', ef', ⟨ck', ⟨R', N'⟩, pp', n', tx', f', ⟨R2', N2'⟩⟩⟩ := eb
        have x0 := hc1 0 (by decide); have x1 := hc1 1 (by decide); have x2 := hc1 2 (by decide); have x3 := hc1 3 (by decide); have x4 := hc1 4 (by decide); have x5 := hc1 5 (by decide); have x6 := hc1 6 (by decide)
        have x7 := hc1 7 (by decide); have x8 := hc1 8 (by decide); have x9 := hc1 9 (by decide); have x10 := hc1 10 (by decide); have x11 := hc1 11 (by decide); have x12 := hc1 12 (by decide); have x13 := hc1 13 (by decide)
        have y0 := hc2 0 (by decide); have y1 := hc2 1 (by decide); have y2 := hc2 2 (by decide); have y3 := hc2 3 (by decide); have y4 := hc2 4 (by decide); have y5 := hc2 5 (by decide); have y6 := hc2 6 (by decide)
        have y7 := hc2 7 (by decide); have y8 := hc2 8 (by decide); have y9 := hc2 9 (by decide); have y10 := hc2 10 (by decide); have y11 := hc2 11 (by decide); have y12 := hc2 12 (by decide); have y13 := hc2 13 (by decide)
        simp only [evCells, List.getElem?_cons_zero, List.getElem?_cons_succ, Nat.add_zero] at x0 x1 x2 x3 x4 x5 x6 x7 x8 x9 x10 x11 x12 x13 y0 y1 y2 y3 y4 y5 y6 y7 y8 y9 y10 y11 y12 y13
        clear hc1 hc2
        go_wp2_with fail
        go_quiet (fail)
        clear gE qE x0 x1 x2 x3 x4 x5 x6 x7 x8 x9 x10 x11 x12 x13 y0 y1 y2 y3 y4 y5 y6 y7 y8 y9 y10 y11 y12 y13
        generalize hq : evSame ⟨kd, en, eto, ek, ef, ⟨ck, ⟨R, N⟩, pp, n, tx, f, ⟨R2, N2⟩⟩⟩ ⟨kd', en', eto', ek', ef', ⟨ck', ⟨R', N'⟩, pp', n', tx', f', ⟨R2', N2'⟩⟩⟩ = q at hyes hno ⊢
        clear hq
        cases q
        · have H := hno rfl
          clear hyes hno
          go_wp2_with fail
          go_ret
          exact ⟨ret_bool H.out.symm, kr.drewN _⟩
        · have H := hyes rfl
          clear hyes hno
          go_wp2_with fail
          exact ⟨⟨k + 1, by omega, by go_num, H, kr.drewN _⟩, by simp [intOf]; omega⟩
      · obtain rfl : k = la.length := by omega
        have he : decide (la = lb) = true := decide_eq_true (by have := hT.out; rw [List.take_length, hn, List.take_length] at this; exact this)
        have he := Lib.hid he
        clear hT
        go_wp2_with fail
        go_ret
        exact ⟨ret_bool he.out.symm, kr⟩
  · have hn1 : ((la.length : Int) != (lb.length : Int)) = true := by simp; omega
    have hn2 : ((la.length : Int) == (lb.length : Int)) = false := by simp; omega
    have hne : decide (la = lb) = false := decide_eq_false fun e => hn (by rw [e])
    rw [hne]
    go_enter Tryd.func9, Tryd.ntmps9
    go_wp2
    go_ret
    exact ⟨rfl, Keeps.refl _ _⟩

end Go.Proofs.YtkpenijilnagjaaDoor
