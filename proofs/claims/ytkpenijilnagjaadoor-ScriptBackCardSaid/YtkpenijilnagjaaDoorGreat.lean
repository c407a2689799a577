/- Great, Fresh. -/
import Derived.Test.YtkpenijilnagjaaDoorSame
namespace Go.Proofs.YtkpenijilnagjaaDoor
open Go.RowKit

def great (l : List Off.Ev) : Bool := decide (150 < l.length) || l.any fun e => decide (100 < e.cmd.text.length)

theorem great_far {l : List Off.Ev} (h : 150 < l.length) : great l = true := by unfold great; rw [decide_eq_true h]; rfl
theorem great_hit {l : List Off.Ev} {k : Nat} (hk : k < l.length) (h : 100 < l[k].cmd.text.length) : great l = true := by
  unfold great
  rw [show (l.any fun e => decide (100 < e.cmd.text.length)) = true from List.any_eq_true.2 ⟨l[k], List.getElem_mem hk, by simpa using h⟩, Bool.or_true]
theorem great_not {l : List Off.Ev} (h : l.length ≤ 150) (h' : ∀ j (hj : j < l.length), l[j].cmd.text.length ≤ 100) : great l = false := by
  unfold great
  rw [decide_eq_false (by omega), Bool.false_or]
  refine List.any_eq_false.2 fun e he => ?_
  obtain ⟨j, hj, rfl⟩ := List.getElem_of_mem he
  have := h' j hj
  simpa using this

set_option maxRecDepth 100000 in
set_option maxHeartbeats 2000000 in
theorem great_any (v : Value) (l : List Off.Ev) (w : World) (hv : EvLies v l w) :
    Calls Tryd.prog 6 #[v] w fun e w' => e = .returned (.bool (great l)) ∧ Keeps No w w' := by
  have hv' := hv
  obtain ⟨a, c, rfl, _⟩ := hv
  by_cases hf : 150 < l.length
  · have hg := Lib.hid (great_far hf)
    have h1 : (150 : Int) < (l.length : Int) := by omega
    go_enter Tryd.func6, Tryd.ntmps6
    go_wp2
    go_ret
    exact ⟨ret_bool hg.out.symm, Keeps.refl _ _⟩
  · have h1 : ¬ (150 : Int) < (l.length : Int) := by omega
    go_enter Tryd.func6, Tryd.ntmps6
    go_wp2
    go_loopw [3] (fun i wr => ∃ k : Nat, k ≤ l.length ∧ i = .int .i64 k ∧ Hid (∀ j (hj : j < l.length), j < k → l[j].cmd.text.length ≤ 100) ∧ Keeps No w wr) (fun i _ => l.length - (intOf i).toNat)
    case atStart => exact ⟨0, Nat.zero_le _, rfl, fun j hj h => by omega, Keeps.refl _ _⟩
    case round =>
      obtain ⟨k, hk, rfl, hT, kr⟩ := hrel
      by_cases hlt : k < l.length
      · obtain ⟨g, o, cc, h1, hc1⟩ := lies_cells (hv'.no kr) hlt
        simp only [Value.slice.injEq, true_and] at h1
        obtain ⟨rfl, rfl⟩ := h1
        have x10 : wr.cell? ⟨g, o + k * 14 + 10, none⟩ = some (strV (l[k]'hlt).cmd.text) := hc1 10 (by decide)
        have hyes : 100 < (l[k]'hlt).cmd.text.length → Hid (great l = true) := fun h => Lib.hid (great_hit hlt h)
        have hno : ¬ 100 < (l[k]'hlt).cmd.text.length → Hid (∀ j (hj : j < l.length), j < k + 1 → l[j].cmd.text.length ≤ 100) := fun h => Lib.hid fun j hj hjk => by
          rcases Nat.lt_or_ge j k with h2 | h2
          · exact hT.out j hj h2
          · obtain rfl : j = k := by omega
            omega
        clear hT hv' hc1
        generalize (l[k]'hlt).cmd.text = tx at x10 hyes hno
        by_cases hb : 100 < tx.length
        · have H := hyes hb
          have hb' : (100 : Int) < (tx.length : Int) := by omega
          clear hyes hno
          go_wp2_with fail
          go_ret
          exact ⟨ret_bool H.out.symm, kr⟩
        · have H := hno hb
          have hb' : ¬ (100 : Int) < (tx.length : Int) := by omega
          clear hyes hno
          go_wp2_with fail
          exact ⟨⟨k + 1, by omega, by go_num, H, kr⟩, by simp [intOf]; omega⟩
      · obtain rfl : k = l.length := by omega
        have H := Lib.hid (great_not (by omega) fun j hj => hT.out j hj hj)
        clear hT
        go_wp2_with fail
        go_ret
        exact ⟨ret_bool H.out.symm, kr⟩

set_option maxRecDepth 100000 in
set_option maxHeartbeats 2000000 in
theorem fresh_any (n : Int) (s : List UInt8) (w : World) :
    Calls Tryd.prog 10 #[.int .i64 n, .string ⟨s.toArray⟩] w fun e w' => e = .returned (evV ⟨1, n, 0, 0, false, ⟨1, ⟨0, 0⟩, 0, 0, s, true, ⟨0, 0⟩⟩⟩) ∧ Keeps No w w' := by
  go_enter Tryd.func10, Tryd.ntmps10
  go_wp2
  have hb := heap_alloc_new w (.cells #[.int .i64 1, .int .i64 n, .int .i64 0, .int .i64 0, .bool false, .int .i64 1, .int .i64 0, .int .i64 0, .int .i64 0, .int .i64 0, .string ⟨s.toArray⟩, .bool true, .int .i64 0, .int .i64 0] 38)
  have kk : Keeps No w (w.alloc (.cells #[.int .i64 1, .int .i64 n, .int .i64 0, .int .i64 0, .bool false, .int .i64 1, .int .i64 0, .int .i64 0, .int .i64 0, .int .i64 0, .string ⟨s.toArray⟩, .bool true, .int .i64 0, .int .i64 0] 38)) := (Keeps.refl _ _).alloc _
  generalize w.alloc (.cells #[.int .i64 1, .int .i64 n, .int .i64 0, .int .i64 0, .bool false, .int .i64 1, .int .i64 0, .int .i64 0, .int .i64 0, .int .i64 0, .string ⟨s.toArray⟩, .bool true, .int .i64 0, .int .i64 0] 38) = W at *
  have c := Lib.cell_of_heap hb
  exact bodyPost_ret (v := evV ⟨1, n, 0, 0, false, ⟨1, ⟨0, 0⟩, 0, 0, s, true, ⟨0, 0⟩⟩⟩) (by simp [results, Tryd.results10, go_sem, c]) rfl ⟨rfl, kk⟩

end Go.Proofs.YtkpenijilnagjaaDoor
