/- The words of a line's command. -/
import Derived.Test.YtkpenijilnagjaaGreatDoorLine
import Derived.Test.YtkpenijilnagjaaGreatDoorPlain
import Derived.Test.YtkpenijilnagjaaGreatDoorQuote
namespace Go.Proofs.YtkpenijilnagjaaGreatDoor
open Go.RowKit

theorem LineIs.drew {b : Nat} {v : Value} {ws : List (List UInt8)} {w : World} (h : LineIs b v ws w) : LineIs b v ws w.drew := h
theorem one_cell_at (w : World) (x : List UInt8) {n : Nat} (hn : n = w.heap.size) : ∀ j u, ([x].map strV)[j]? = some u → (w.alloc (.cells #[strV x] 9)).cell? ⟨n, j, none⟩ = some u := by
  subst hn; exact one_cell w x
theorem one_cell_drew (w : World) (x : List UInt8) {n : Nat} (hn : n = w.heap.size) : ∀ j u, ([x].map strV)[j]? = some u → (w.alloc (.cells #[strV x] 9)).drew.cell? ⟨n, j, none⟩ = some u := by
  subst hn; exact one_cell w x
theorem Keeps.of_drew {b : Nat} {w w' : World} (h : Keeps (LS b w.drew) w.drew w') : Keeps (LS b w) w w' := ⟨h.os, h.tape, h.output, h.size, h.block⟩

theorem three_boxes (w : World) (o o' o'' : Obj) : (((w.alloc o).alloc o').alloc o'').heap[w.heap.size]? = some o ∧ (((w.alloc o).alloc o').alloc o'').heap[w.heap.size + 1]? = some o' ∧ (((w.alloc o).alloc o').alloc o'').heap[w.heap.size + 1 + 1]? = some o'' := by
  obtain ⟨h1, h2⟩ := two_boxes w o o'
  refine ⟨heap_alloc_keep h1 o'', heap_alloc_keep h2 o'', ?_⟩
  have := heap_alloc_new ((w.alloc o).alloc o') o''
  rwa [show ((w.alloc o).alloc o').heap.size = w.heap.size + 1 + 1 from by simp] at this

/-- a block of nine cells is written anew -/
theorem Keeps.fillAt {w : World} {b : Nat} {cs : Array Value} {T : TypeId} {fr : Nat × Nat} (_ : w.heap[b]? = some (.cells cs T fr)) (v0 v1 v2 v3 v4 v5 v6 v7 v8 : Value) :
    Keeps (At1 b) w (((((((((w.setCell ⟨b, 0, none⟩ v0).setCell ⟨b, 1, none⟩ v1).setCell ⟨b, 2, none⟩ v2).setCell ⟨b, 3, none⟩ v3).setCell ⟨b, 4, none⟩ v4).setCell ⟨b, 5, none⟩ v5).setCell ⟨b, 6, none⟩ v6).setCell ⟨b, 7, none⟩ v7).setCell ⟨b, 8, none⟩ v8) :=
  (((((((((Keeps.refl _ _).set1 _).set1 _).set1 _).set1 _).set1 _).set1 _).set1 _).set1 _).set1 _

theorem LineIs.keep1 {b k : Nat} {v : Value} {ws : List (List UInt8)} {w w' : World} {cs : Array Value} {T : TypeId} {fr : Nat × Nat} (h : LineIs b v ws w) (k1 : Keeps (At1 k) w w')
    (hk : w.heap[k]? = some (.cells cs T fr)) (hb : k ≠ b) (hT : T ≠ 9) : LineIs b v ws w' := by
  refine ⟨k1.heap h.1 (fun e => hb e.symm), h.2.1, ?_⟩
  rcases h.2.2 with hn | ⟨g, cap, cur, rfl, hg, hgg, rest⟩
  · exact .inl hn
  · refine .inr ⟨g, cap, cur, rfl, hg, k1.heap hgg (fun e => ?_), rest⟩
    have e' : g = k := e
    rw [← e', hgg] at hk
    simp only [Option.some.injEq, Obj.cells.injEq] at hk
    exact hT hk.2.1.symm

theorem res_lcmd {w : World} {b : Nat} {v0 v1 v2 v3 v4 v5 v6 v7 v8 : Value} {tmps : Array Value} (h : w.heap[b]? = some (.cells #[v0, v1, v2, v3, v4, v5, v6, v7, v8] 77 (0, 0)))
    (ht : tmps[4]?.getD undef = .pointer (some ⟨b, 0, none⟩)) :
    (results Tryz.f76 tmps).run Tryz.prog w = .ok (.agg #[v0, v1, v2, v3, v4, v5, v6, v7, v8]) w := by
  have c := Lib.cell_of_heap h
  simp [results, Tryz.results76, go_sem, ht, c]

/-- the numbers of a command are ints, its text is not too long -/
def CmdFits (c : Off.Cmd) : Prop := Off.I64 c.block.R ∧ Off.I64 c.block.N ∧ Off.I64 c.other.R ∧ Off.I64 c.other.N ∧ Off.I64 c.pos ∧ Off.I64 c.n ∧ c.text.length ≤ 1000000

/-- how a line's command ends -/
def LCmdPost (b : Nat) (w : World) (ws : List (List UInt8)) (c : Off.Cmd) (e : Ending) (w' : World) : Prop :=
  e = .returned (cmdV (Off.cmdTold c)) ∧ (∃ v, LineIs b v (ws ++ Off.cmdWords c) w') ∧ Keeps (LS b w) w w'

end Go.Proofs.YtkpenijilnagjaaGreatDoor
