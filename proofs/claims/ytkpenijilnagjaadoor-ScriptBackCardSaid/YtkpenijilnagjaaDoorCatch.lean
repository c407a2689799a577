/- The closure that parse defers: where the scanner has panicked, and where it has not. -/
import Derived.Test.YtkpenijilnagjaaDoorEvBase
import Derived.Defers
import Derived.Recover
import Derived.Laws.Pointers
namespace Go.Proofs.YtkpenijilnagjaaDoor
open Go.RowKit

theorem assert_wrong (v : Value) (w : World) : (Instr.typeAssert (.iface 66 v) 20 66 true).run Tryd.prog w = .ok (.tuple #[v, .bool true]) w := by
  simp [Instr.typeAssert, run_underlying Tryd.underlying66, go_sem]

set_option maxRecDepth 100000 in
set_option maxHeartbeats 2000000 in
theorem catch_idle (p q : Addr) (w : World) :
    CallsD Tryd.prog 23 #[.pointer (some p), .pointer (some q)] .returning w fun e u' w' => e = .returned (.tuple #[]) ∧ u' = .returning ∧ w' = w := by
  refine callsD_of_wpS Tryd.func23 rfl fun c₀ cs hu => ?_
  apply wpS_seq
  apply wpS_region
  simp [wpOpsS, go_sem, recoverD, hu, Tryd.ntmps23, Exit.thenS]
  refine wpS_of_wp ?_
  cases c₀
  simp only [show (#[Value.pointer (some p), Value.pointer (some q)] ++ (Array.replicate 10 undef).setIfInBounds 3 Value.nilIface : Array Value) = #[.pointer (some p), .pointer (some q), undef, undef, undef, .nilIface, undef, undef, undef, undef, undef, undef] from rfl]
  go_wp2
  simp [bodyPostS, results, Tryd.results23]

set_option maxRecDepth 100000 in
set_option maxHeartbeats 2000000 in
theorem catch_wrong (b q : Nat) (w : World) (hbq : b ≠ q) (hp : w.heap[b]? = some (.cells #[.int .i64 0, .int .i64 0, .int .i64 0, .int .i64 0, .bool false, .int .i64 0, .int .i64 0, .int .i64 0, .int .i64 0, .int .i64 0, .string ⟨#[]⟩, .bool false, .int .i64 0, .int .i64 0] 38 (0, 0))) (hq : w.heap[q]? = some (.cells #[.bool false] 4 (0, 0))) :
    CallsD Tryd.prog 23 #[.pointer (some ⟨b, 0, none⟩), .pointer (some ⟨q, 0, none⟩)] (.panicking wrongChain) w fun e u' w' => e = .returned (.tuple #[]) ∧ u' = .panicking [{ v := .iface 66 (.agg #[]), recovered := true }] ∧
        w'.heap[b]? = some (.cells #[.int .i64 0, .int .i64 0, .int .i64 0, .int .i64 0, .bool false, .int .i64 0, .int .i64 0, .int .i64 0, .int .i64 0, .int .i64 0, .string ⟨#[]⟩, .bool false, .int .i64 0, .int .i64 0] 38 (0, 0)) ∧ w'.heap[q]? = some (.cells #[.bool false] 4 (0, 0)) ∧ Keeps (fun k => k = b ∨ k = q) w w' := by
  refine callsD_of_wpS Tryd.func23 rfl fun c₀ cs hu => ?_
  apply wpS_seq
  apply wpS_region
  simp [wpOpsS, go_sem, recoverD, hu, Tryd.ntmps23, Exit.thenS, wrongChain]
  refine wpS_of_wp ?_
  cases c₀
  simp only [show ∀ v : Value, (#[Value.pointer (some ⟨b, 0, none⟩), Value.pointer (some ⟨q, 0, none⟩)] ++ (Array.replicate 10 undef).setIfInBounds 3 v : Array Value) = #[.pointer (some ⟨b, 0, none⟩), .pointer (some ⟨q, 0, none⟩), undef, undef, undef, v, undef, undef, undef, undef, undef, undef] from fun _ => rfl]
  have hp1 := heap_alloc_keep hp (.cells #[] 66)
  have hq1 := heap_alloc_keep hq (.cells #[] 66)
  have ce := Lib.cell_of_heap hp1
  have cq := Lib.cell_of_heap hq1
  have fe := Lib.frozen_of_heap hp1
  have fq := Lib.frozen_of_heap hq1
  have hta := assert_wrong
  go_wp2
  have HB := heap_set_ne (heap_fill14 hp1 (.int .i64 0) (.int .i64 0) (.int .i64 0) (.int .i64 0) (.bool false) (.int .i64 0) (.int .i64 0) (.int .i64 0) (.int .i64 0) (.int .i64 0) (.string ⟨#[]⟩) (.bool false) (.int .i64 0) (.int .i64 0)) (j := 0) hbq (.bool false)
  have HQ : ((((((((((((((((w.alloc (.cells #[] 66)).setCell ⟨b, 0, none⟩ (.int .i64 0)).setCell ⟨b, 1, none⟩ (.int .i64 0)).setCell ⟨b, 2, none⟩ (.int .i64 0)).setCell ⟨b, 3, none⟩ (.int .i64 0)).setCell ⟨b, 4, none⟩ (.bool false)).setCell ⟨b, 5, none⟩ (.int .i64 0)).setCell ⟨b, 6, none⟩ (.int .i64 0)).setCell ⟨b, 7, none⟩ (.int .i64 0)).setCell ⟨b, 8, none⟩ (.int .i64 0)).setCell ⟨b, 9, none⟩ (.int .i64 0)).setCell ⟨b, 10, none⟩ (.string ⟨#[]⟩)).setCell ⟨b, 11, none⟩ (.bool false)).setCell ⟨b, 12, none⟩ (.int .i64 0)).setCell ⟨b, 13, none⟩ (.int .i64 0)).setCell ⟨q, 0, none⟩ (.bool false)).heap[q]? = some (.cells #[.bool false] 4 (0, 0)) := heap_set (heap_set_ne (heap_set_ne (heap_set_ne (heap_set_ne (heap_set_ne (heap_set_ne (heap_set_ne (heap_set_ne (heap_set_ne (heap_set_ne (heap_set_ne (heap_set_ne (heap_set_ne (heap_set_ne hq1 (j := 0) (fun e => hbq e.symm) (.int .i64 0)) (j := 1) (fun e => hbq e.symm) (.int .i64 0)) (j := 2) (fun e => hbq e.symm) (.int .i64 0)) (j := 3) (fun e => hbq e.symm) (.int .i64 0)) (j := 4) (fun e => hbq e.symm) (.bool false)) (j := 5) (fun e => hbq e.symm) (.int .i64 0)) (j := 6) (fun e => hbq e.symm) (.int .i64 0)) (j := 7) (fun e => hbq e.symm) (.int .i64 0)) (j := 8) (fun e => hbq e.symm) (.int .i64 0)) (j := 9) (fun e => hbq e.symm) (.int .i64 0)) (j := 10) (fun e => hbq e.symm) (.string ⟨#[]⟩)) (j := 11) (fun e => hbq e.symm) (.bool false)) (j := 12) (fun e => hbq e.symm) (.int .i64 0)) (j := 13) (fun e => hbq e.symm) (.int .i64 0)) 0 (.bool false)
  have HK : Keeps (fun k => k = b ∨ k = q) w ((((((((((((((((w.alloc (.cells #[] 66)).setCell ⟨b, 0, none⟩ (.int .i64 0)).setCell ⟨b, 1, none⟩ (.int .i64 0)).setCell ⟨b, 2, none⟩ (.int .i64 0)).setCell ⟨b, 3, none⟩ (.int .i64 0)).setCell ⟨b, 4, none⟩ (.bool false)).setCell ⟨b, 5, none⟩ (.int .i64 0)).setCell ⟨b, 6, none⟩ (.int .i64 0)).setCell ⟨b, 7, none⟩ (.int .i64 0)).setCell ⟨b, 8, none⟩ (.int .i64 0)).setCell ⟨b, 9, none⟩ (.int .i64 0)).setCell ⟨b, 10, none⟩ (.string ⟨#[]⟩)).setCell ⟨b, 11, none⟩ (.bool false)).setCell ⟨b, 12, none⟩ (.int .i64 0)).setCell ⟨b, 13, none⟩ (.int .i64 0)).setCell ⟨q, 0, none⟩ (.bool false)) := (Keeps.setCell (Keeps.setCell (Keeps.setCell (Keeps.setCell (Keeps.setCell (Keeps.setCell (Keeps.setCell (Keeps.setCell (Keeps.setCell (Keeps.setCell (Keeps.setCell (Keeps.setCell (Keeps.setCell (Keeps.setCell (Keeps.setCell ((Keeps.refl (fun k => k = b ∨ k = q) w).alloc (.cells #[] 66)) (a := ⟨b, 0, none⟩) (fun _ => .inl rfl) (.int .i64 0)) (a := ⟨b, 1, none⟩) (fun _ => .inl rfl) (.int .i64 0)) (a := ⟨b, 2, none⟩) (fun _ => .inl rfl) (.int .i64 0)) (a := ⟨b, 3, none⟩) (fun _ => .inl rfl) (.int .i64 0)) (a := ⟨b, 4, none⟩) (fun _ => .inl rfl) (.bool false)) (a := ⟨b, 5, none⟩) (fun _ => .inl rfl) (.int .i64 0)) (a := ⟨b, 6, none⟩) (fun _ => .inl rfl) (.int .i64 0)) (a := ⟨b, 7, none⟩) (fun _ => .inl rfl) (.int .i64 0)) (a := ⟨b, 8, none⟩) (fun _ => .inl rfl) (.int .i64 0)) (a := ⟨b, 9, none⟩) (fun _ => .inl rfl) (.int .i64 0)) (a := ⟨b, 10, none⟩) (fun _ => .inl rfl) (.string ⟨#[]⟩)) (a := ⟨b, 11, none⟩) (fun _ => .inl rfl) (.bool false)) (a := ⟨b, 12, none⟩) (fun _ => .inl rfl) (.int .i64 0)) (a := ⟨b, 13, none⟩) (fun _ => .inl rfl) (.int .i64 0)) (a := ⟨q, 0, none⟩) (fun _ => .inr rfl) (.bool false))
  clear ce cq fe fq hp1 hq1 hp hq hta
  generalize ((((((((((((((((w.alloc (.cells #[] 66)).setCell ⟨b, 0, none⟩ (.int .i64 0)).setCell ⟨b, 1, none⟩ (.int .i64 0)).setCell ⟨b, 2, none⟩ (.int .i64 0)).setCell ⟨b, 3, none⟩ (.int .i64 0)).setCell ⟨b, 4, none⟩ (.bool false)).setCell ⟨b, 5, none⟩ (.int .i64 0)).setCell ⟨b, 6, none⟩ (.int .i64 0)).setCell ⟨b, 7, none⟩ (.int .i64 0)).setCell ⟨b, 8, none⟩ (.int .i64 0)).setCell ⟨b, 9, none⟩ (.int .i64 0)).setCell ⟨b, 10, none⟩ (.string ⟨#[]⟩)).setCell ⟨b, 11, none⟩ (.bool false)).setCell ⟨b, 12, none⟩ (.int .i64 0)).setCell ⟨b, 13, none⟩ (.int .i64 0)).setCell ⟨q, 0, none⟩ (.bool false)) = W at *
  simp [bodyPostS, results, Tryd.results23]
  exact ⟨HB, HQ, HK⟩

end Go.Proofs.YtkpenijilnagjaaDoor
