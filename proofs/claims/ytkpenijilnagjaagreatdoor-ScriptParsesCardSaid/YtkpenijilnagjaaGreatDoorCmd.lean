/- The scanner's command: simple words, and the command of a line. -/
import Derived.Test.YtkpenijilnagjaaGreatDoorText
namespace Go.Proofs.YtkpenijilnagjaaGreatDoor
open Go.RowKit

theorem ret_int {a b : Int} (h : a = b) : Ending.returned (.int .i64 a) = .returned (.int .i64 b) := by rw [h]

set_option maxRecDepth 100000 in
set_option maxHeartbeats 400000 in
theorem simple_any (s : List UInt8) (w : World) :
    Calls Tryz.prog 159 #[.string ⟨s.toArray⟩] w fun e w' => e = .returned (.int .i64 (Off.simple s)) ∧ w = w' := by
  go_enter Tryz.func159, Tryz.ntmps159
  go_wp2
  all_goals
    go_ret
    refine ⟨ret_int ?_, rfl⟩
    simp_all [Off.simple, Off.sJoin, Off.sIndent, Off.sOutdent, Off.sUp, Off.sDown, Off.sTrashC, Off.sRestore, Off.sFold, Off.sUnfold]

theorem bind_eq {α β : Type} {o : Option α} {a : α} {F : α → Option β} (h : o = some a) : o.bind F = F a := by rw [h]; rfl
theorem bind_none {α β : Type} {o : Option α} {F : α → Option β} (h : o = none) : o.bind F = none := by rw [h]; rfl

theorem block_rest {s r : List UInt8} {i : Off.Bid} (h : Off.block s = some (i, r)) : r.length ≤ s.length := by
  unfold Off.block Off.word at h
  simp only at h
  cases hh : Off.readId (Off.upto 32 s) with
  | none => rw [hh] at h; cases h
  | some j => rw [hh] at h; simp at h; rw [← h.2]; exact behind_le 32 s
theorem number_rest {s r : List UInt8} {n : Int} (h : Off.number s = some (n, r)) : r.length ≤ s.length := by
  unfold Off.number Off.word at h
  simp only at h
  split at h
  · cases h
  · split at h
    · cases h; exact behind_le 32 s
    · cases h
theorem in_rest {s r : List UInt8} {f : Bool} (h : Off.scIn s = some (f, r)) : r.length ≤ s.length := by
  unfold Off.scIn Off.scInOf Off.word at h
  simp only at h
  split at h
  · cases h; exact behind_le 32 s
  · split at h
    · cases h; exact behind_le 32 s
    · cases h

theorem Env.setNew {w : World} (h : Env w) {b j : Nat} (hb : 10 ≤ b) (v : Value) : Env (w.setCell ⟨b, j, none⟩ v) := h.setCell hb v
theorem two_boxes (w : World) (o o' : Obj) : ((w.alloc o).alloc o').heap[w.heap.size]? = some o ∧ ((w.alloc o).alloc o').heap[w.heap.size + 1]? = some o' := by
  refine ⟨heap_alloc_keep (heap_alloc_new w o) o', ?_⟩
  have := heap_alloc_new (w.alloc o) o'
  rwa [show (w.alloc o).heap.size = w.heap.size + 1 from by simp] at this

theorem heap_fill9 {w : World} {b : Nat} {T : TypeId} {a0 a1 a2 a3 a4 a5 a6 a7 a8 : Value} (h : w.heap[b]? = some (.cells #[a0, a1, a2, a3, a4, a5, a6, a7, a8] T (0, 0))) (v0 v1 v2 v3 v4 v5 v6 v7 v8 : Value) :
    (((((((((w.setCell ⟨b, 0, none⟩ v0).setCell ⟨b, 1, none⟩ v1).setCell ⟨b, 2, none⟩ v2).setCell ⟨b, 3, none⟩ v3).setCell ⟨b, 4, none⟩ v4).setCell ⟨b, 5, none⟩ v5).setCell ⟨b, 6, none⟩ v6).setCell ⟨b, 7, none⟩ v7).setCell ⟨b, 8, none⟩ v8).heap[b]? = some (.cells #[v0, v1, v2, v3, v4, v5, v6, v7, v8] T (0, 0)) := by
  have h0 : (w.setCell ⟨b, 0, none⟩ v0).heap[b]? = some (.cells #[v0, a1, a2, a3, a4, a5, a6, a7, a8] T (0, 0)) := heap_set h 0 v0
  have h1 : ((w.setCell ⟨b, 0, none⟩ v0).setCell ⟨b, 1, none⟩ v1).heap[b]? = some (.cells #[v0, v1, a2, a3, a4, a5, a6, a7, a8] T (0, 0)) := heap_set h0 1 v1
  have h2 : (((w.setCell ⟨b, 0, none⟩ v0).setCell ⟨b, 1, none⟩ v1).setCell ⟨b, 2, none⟩ v2).heap[b]? = some (.cells #[v0, v1, v2, a3, a4, a5, a6, a7, a8] T (0, 0)) := heap_set h1 2 v2
  have h3 : ((((w.setCell ⟨b, 0, none⟩ v0).setCell ⟨b, 1, none⟩ v1).setCell ⟨b, 2, none⟩ v2).setCell ⟨b, 3, none⟩ v3).heap[b]? = some (.cells #[v0, v1, v2, v3, a4, a5, a6, a7, a8] T (0, 0)) := heap_set h2 3 v3
  have h4 : (((((w.setCell ⟨b, 0, none⟩ v0).setCell ⟨b, 1, none⟩ v1).setCell ⟨b, 2, none⟩ v2).setCell ⟨b, 3, none⟩ v3).setCell ⟨b, 4, none⟩ v4).heap[b]? = some (.cells #[v0, v1, v2, v3, v4, a5, a6, a7, a8] T (0, 0)) := heap_set h3 4 v4
  have h5 : ((((((w.setCell ⟨b, 0, none⟩ v0).setCell ⟨b, 1, none⟩ v1).setCell ⟨b, 2, none⟩ v2).setCell ⟨b, 3, none⟩ v3).setCell ⟨b, 4, none⟩ v4).setCell ⟨b, 5, none⟩ v5).heap[b]? = some (.cells #[v0, v1, v2, v3, v4, v5, a6, a7, a8] T (0, 0)) := heap_set h4 5 v5
  have h6 : (((((((w.setCell ⟨b, 0, none⟩ v0).setCell ⟨b, 1, none⟩ v1).setCell ⟨b, 2, none⟩ v2).setCell ⟨b, 3, none⟩ v3).setCell ⟨b, 4, none⟩ v4).setCell ⟨b, 5, none⟩ v5).setCell ⟨b, 6, none⟩ v6).heap[b]? = some (.cells #[v0, v1, v2, v3, v4, v5, v6, a7, a8] T (0, 0)) := heap_set h5 6 v6
  have h7 : ((((((((w.setCell ⟨b, 0, none⟩ v0).setCell ⟨b, 1, none⟩ v1).setCell ⟨b, 2, none⟩ v2).setCell ⟨b, 3, none⟩ v3).setCell ⟨b, 4, none⟩ v4).setCell ⟨b, 5, none⟩ v5).setCell ⟨b, 6, none⟩ v6).setCell ⟨b, 7, none⟩ v7).heap[b]? = some (.cells #[v0, v1, v2, v3, v4, v5, v6, v7, a8] T (0, 0)) := heap_set h6 7 v7
  have h8 : (((((((((w.setCell ⟨b, 0, none⟩ v0).setCell ⟨b, 1, none⟩ v1).setCell ⟨b, 2, none⟩ v2).setCell ⟨b, 3, none⟩ v3).setCell ⟨b, 4, none⟩ v4).setCell ⟨b, 5, none⟩ v5).setCell ⟨b, 6, none⟩ v6).setCell ⟨b, 7, none⟩ v7).setCell ⟨b, 8, none⟩ v8).heap[b]? = some (.cells #[v0, v1, v2, v3, v4, v5, v6, v7, v8] T (0, 0)) := heap_set h7 8 v8
  exact h8
theorem Keeps.fill9 {S : Nat → Prop} {w0 w : World} {b : Nat} (h : Keeps S w0 w) (hb : w0.heap.size ≤ b) (v0 v1 v2 v3 v4 v5 v6 v7 v8 : Value) : Keeps S w0 (((((((((w.setCell ⟨b, 0, none⟩ v0).setCell ⟨b, 1, none⟩ v1).setCell ⟨b, 2, none⟩ v2).setCell ⟨b, 3, none⟩ v3).setCell ⟨b, 4, none⟩ v4).setCell ⟨b, 5, none⟩ v5).setCell ⟨b, 6, none⟩ v6).setCell ⟨b, 7, none⟩ v7).setCell ⟨b, 8, none⟩ v8) :=
  (Keeps.setNew (Keeps.setNew (Keeps.setNew (Keeps.setNew (Keeps.setNew (Keeps.setNew (Keeps.setNew (Keeps.setNew (Keeps.setNew h hb v0) hb v1) hb v2) hb v3) hb v4) hb v5) hb v6) hb v7) hb v8)
theorem Scan.fill9 {c b : Nat} {s : List UInt8} {w : World} (h : Scan c s w) (hn : c ≠ b) (v0 v1 v2 v3 v4 v5 v6 v7 v8 : Value) : Scan c s (((((((((w.setCell ⟨b, 0, none⟩ v0).setCell ⟨b, 1, none⟩ v1).setCell ⟨b, 2, none⟩ v2).setCell ⟨b, 3, none⟩ v3).setCell ⟨b, 4, none⟩ v4).setCell ⟨b, 5, none⟩ v5).setCell ⟨b, 6, none⟩ v6).setCell ⟨b, 7, none⟩ v7).setCell ⟨b, 8, none⟩ v8) :=
  (Scan.other (Scan.other (Scan.other (Scan.other (Scan.other (Scan.other (Scan.other (Scan.other (Scan.other h hn v0) hn v1) hn v2) hn v3) hn v4) hn v5) hn v6) hn v7) hn v8)
theorem res_cmd {w : World} {b : Nat} {v0 v1 v2 v3 v4 v5 v6 v7 v8 : Value} {tmps : Array Value} (h : w.heap[b]? = some (.cells #[v0, v1, v2, v3, v4, v5, v6, v7, v8] 77 (0, 0)))
    (ht : tmps[2]?.getD undef = .pointer (some ⟨b, 0, none⟩)) :
    (results Tryz.f108 tmps).run Tryz.prog w = .ok (.agg #[v0, v1, v2, v3, v4, v5, v6, v7, v8]) w := by
  have c := Lib.cell_of_heap h
  simp [results, Tryz.results108, go_sem, ht, c]

/-- a command as a value -/
@[reducible] def cmdV (c : Off.Cmd) : Value :=
  .agg #[.int .i64 c.kind, .int .i64 c.block.R, .int .i64 c.block.N, .int .i64 c.pos, .int .i64 c.n, .string ⟨c.text.toArray⟩, .bool c.flag, .int .i64 c.other.R, .int .i64 c.other.N]

/-- how command ends -/
def CmdPost (b : Nat) (w : World) (res : Option (Off.Cmd × List UInt8)) (e : Ending) (w' : World) : Prop :=
  Keeps (At1 b) w w' ∧ match res with
    | some (c, r) => e = .returned (cmdV c) ∧ Scan b r w'
    | none => e = .panicked wrongChain

theorem CmdPost.bad {b : Nat} {s : List UInt8} {w w' : World} (h : Off.command s = none) (k : Keeps (At1 b) w w') : CmdPost b w (Off.command s) (.panicked wrongChain) w' := by
  unfold CmdPost; rw [h]; exact ⟨k, rfl⟩
theorem CmdPost.good {b : Nat} {s r : List UInt8} {c : Off.Cmd} {v : Value} {w w' : World} (h : Off.command s = some (c, r)) (hv : v = cmdV c) (k : Keeps (At1 b) w w') (hb : Scan b r w') :
    CmdPost b w (Off.command s) (.returned v) w' := by
  unfold CmdPost; rw [h]; exact ⟨k, by rw [hv], hb⟩

end Go.Proofs.YtkpenijilnagjaaGreatDoor
