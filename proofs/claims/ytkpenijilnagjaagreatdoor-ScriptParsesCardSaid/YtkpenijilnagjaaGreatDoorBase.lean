/- What the walks of the layer script share: which blocks a call keeps, and what the package's variables hold. -/
import Derived.Test.YtkpenijilnagjaaGreatDoorChecked
import Derived.WalkKit
import Derived.Lib.Hide
import Derived.Lib.LaidTab
import Derived.Lib.ItoaNum
import Derived.Deep.Draws
import Derived.Deep.QuietTactic
import Derived.BigQuiet
import Derived.LaidLaws
import Derived.Lib.QuietBelow
namespace Go.Proofs.YtkpenijilnagjaaGreatDoor
open Go.RowKit

/-- Of the blocks that were there, only those of S may have turned. -/
structure Keeps (S : Nat → Prop) (w w' : World) : Prop where
  os : w'.os = w.os
  tape : w'.tape = w.tape
  output : w'.output = w.output
  size : w.heap.size ≤ w'.heap.size
  block : ∀ k, k < w.heap.size → ¬ S k → w'.heap[k]? = w.heap[k]?

def No : Nat → Prop := fun _ => False
def At1 (b : Nat) : Nat → Prop := fun k => k = b

section
variable {S S' : Nat → Prop} {w w' w'' : World}

theorem Keeps.refl (S : Nat → Prop) (w : World) : Keeps S w w := ⟨rfl, rfl, rfl, Nat.le_refl _, fun _ _ _ => rfl⟩
theorem Keeps.step (h : Keeps S w w') (h' : Keeps S' w' w'') (hs : ∀ k, S' k → k < w.heap.size → S k) : Keeps S w w'' :=
  ⟨h'.os.trans h.os, h'.tape.trans h.tape, h'.output.trans h.output, Nat.le_trans h.size h'.size, fun k hk hn =>
    (h'.block k (Nat.lt_of_lt_of_le hk h.size) (fun e => hn (hs k e hk))).trans (h.block k hk hn)⟩
theorem Keeps.trans (h : Keeps S w w') (h' : Keeps S w' w'') : Keeps S w w'' := h.step h' fun _ e _ => e
theorem Keeps.no (h : Keeps S w w') (h' : Keeps No w' w'') : Keeps S w w'' := h.step h' fun _ e _ => e.elim
theorem Keeps.mono (h : Keeps S w w') (hs : ∀ k, S k → k < w.heap.size → S' k) : Keeps S' w w' :=
  ⟨h.os, h.tape, h.output, h.size, fun k hk hn => h.block k hk fun e => hn (hs k e hk)⟩
theorem Keeps.of_below (h : Below w.heap.size w w') : Keeps S w w' := ⟨h.os, h.tape, h.output, h.size, fun k hk _ => h.block k hk⟩
theorem Keeps.any (h : Keeps No w w') : Keeps S w w' := h.mono fun _ e => e.elim
theorem Keeps.setNew (h : Keeps S w w') {b j : Nat} (hb : w.heap.size ≤ b) (v : Value) : Keeps S w (w'.setCell ⟨b, j, none⟩ v) :=
  ⟨h.os, h.tape, h.output, Nat.le_trans h.size (by simp [World.setCell]), fun k hk hn =>
    (Below.heap_setCell w' ⟨b, j, none⟩ v k (by show k ≠ b; omega)).trans (h.block k hk hn)⟩
theorem Keeps.set1 {b o : Nat} (h : Keeps (At1 b) w w') (v : Value) : Keeps (At1 b) w (w'.setCell ⟨b, o, none⟩ v) :=
  ⟨h.os, h.tape, h.output, Nat.le_trans h.size (by simp [World.setCell]), fun k hk hn =>
    (Below.heap_setCell w' ⟨b, o, none⟩ v k (fun e => hn e)).trans (h.block k hk hn)⟩
theorem Keeps.below (h : Keeps S w w') {B : Nat} (hB : B ≤ w.heap.size) (hs : ∀ k, S k → B ≤ k) : Below B w w' :=
  ⟨h.os, h.tape, h.output, h.size, fun k hk => h.block k (by omega) fun e => by have := hs k e; omega⟩
theorem Keeps.drew (h : Keeps S w w') : Keeps S w w'.drew := ⟨h.os, h.tape, h.output, h.size, h.block⟩
theorem Keeps.drewN (h : Keeps S w w') (n : Nat) : Keeps S w (w'.drewN n) := ⟨h.os, h.tape, h.output, h.size, h.block⟩
theorem Keeps.alloc (h : Keeps S w w') (o : Obj) : Keeps S w (w'.alloc o) :=
  ⟨h.os, h.tape, h.output, Nat.le_trans h.size (by simp), fun k hk hn => (Below.heap_alloc w' o k (Nat.lt_of_lt_of_le hk h.size)).trans (h.block k hk hn)⟩
theorem Keeps.setCell (h : Keeps S w w') {a : Addr} (ha : a.block < w.heap.size → S a.block) (v : Value) : Keeps S w (w'.setCell a v) :=
  ⟨h.os, h.tape, h.output, Nat.le_trans h.size (by simp [World.setCell]), fun k hk hn =>
    (Below.heap_setCell w' a v k (fun e => hn (e ▸ ha (e ▸ hk)))).trans (h.block k hk hn)⟩
theorem Keeps.grown (h : Keeps S w w') {row : Option Nat} (hg : w'.grownBy w'' row) (hr : ∀ k, row = some k → w.heap.size ≤ k) : Keeps S w w'' :=
  ⟨hg.os.trans h.os, hg.tape.trans h.tape, hg.output.trans h.output, Nat.le_trans h.size hg.size, fun k hk hn =>
    (hg.block k (Nat.lt_of_lt_of_le hk h.size) (fun e => by have := hr k e.symm; omega)).trans (h.block k hk hn)⟩
theorem Keeps.cell (h : Keeps S w w') {b o : Nat} (hb : b < w.heap.size) (hn : ¬ S b) : w'.cell? ⟨b, o, none⟩ = w.cell? ⟨b, o, none⟩ :=
  World.cell?_of_block (w := w) (h.block b hb hn)
theorem Keeps.frozen (h : Keeps S w w') {b o : Nat} (hb : b < w.heap.size) (hn : ¬ S b) : w'.frozen? ⟨b, o, none⟩ = w.frozen? ⟨b, o, none⟩ :=
  World.frozen?_of_block (w := w) (h.block b hb hn)
theorem Keeps.heap (h : Keeps S w w') {b : Nat} {o : Obj} (hb : w.heap[b]? = some o) (hn : ¬ S b) : w'.heap[b]? = some o :=
  (h.block b (Array.getElem?_eq_some_iff.1 hb).1 hn).trans hb
end

/-- what a block that the call itself laid holds, behind what keeps it -/
theorem Keeps.own {S : Nat → Prop} {w w' : World} {o : Obj} (h : Keeps S (w.alloc o) w') (hn : ¬ S w.heap.size) : w'.heap[w.heap.size]? = some o :=
  h.heap (heap_alloc_new w o) hn

theorem heap_set {w : World} {b : Nat} {cs : Array Value} {T : TypeId} {fr : Nat × Nat} (h : w.heap[b]? = some (.cells cs T fr)) (j : Nat) (v : Value) :
    (w.setCell ⟨b, j, none⟩ v).heap[b]? = some (.cells (cs.setIfInBounds j v) T fr) := by
  simp [World.setCell, Array.getElem?_modify, h]
theorem heap_set_ne {w : World} {b : Nat} {o : Obj} (h : w.heap[b]? = some o) {b' j : Nat} (hne : b ≠ b') (v : Value) :
    (w.setCell ⟨b', j, none⟩ v).heap[b]? = some o := (Below.heap_setCell w ⟨b', j, none⟩ v b hne).trans h
theorem heap_alloc_keep {w : World} {b : Nat} {o : Obj} (h : w.heap[b]? = some o) (o' : Obj) : (w.alloc o').heap[b]? = some o :=
  (Below.heap_alloc w o' b (Array.getElem?_eq_some_iff.1 h).1).trans h
theorem heap_lt {w : World} {b : Nat} {o : Obj} (h : w.heap[b]? = some o) : b < w.heap.size := (Array.getElem?_eq_some_iff.1 h).1

theorem Keeps.owns {S : Nat → Prop} {w w' : World} {base : Nat} {e : TypeId} {size : Nat} {v : Value} {n : Nat} {xs : List Value} (k : Keeps S w w') (hS : ∀ b, S b → b < base)
    (h : w.ownsRow base e size v n xs) : w'.ownsRow base e size v n xs := by
  refine ⟨h.1, ?_⟩
  rcases h.2 with hn | ⟨g, cap, cur, rfl, hb, hgg, rest⟩
  · exact .inl hn
  · exact .inr ⟨g, cap, cur, rfl, hb, k.heap hgg (fun e => by have := hS g e; omega), rest⟩

theorem keeps_regrown {S : Nat → Prop} (w : World) (d : Nat) (os : Array Obj) : Keeps S w (Sort.grow (redrawn w d) os) := Keeps.of_below (below_regrown w d os)
theorem regrown_of_keeps {w w' : World} (h : Keeps No w w') : ∃ p : Regrown, w' = Sort.grow (redrawn w p.d) p.os :=
  regrown_of_below (h.below (Nat.le_refl _) fun _ e => e.elim)
theorem calls_regrown {P : Program} {f : FuncId} {args : Array Value} {w : World} {d : Nat} {os : Array Obj} {v : Value}
    (h : Calls P f args (Sort.grow (redrawn w d) os) fun e w' => e = .returned v ∧ Keeps No (Sort.grow (redrawn w d) os) w') :
    Calls P f args (Sort.grow (redrawn w d) os) fun e w'' => e = .returned v ∧ ∃ p : Regrown, w'' = Sort.grow (redrawn w p.d) p.os :=
  h.mono fun _ _ ⟨he, hb⟩ => ⟨he, regrown_of_keeps ((keeps_regrown w d os).trans hb)⟩

/-- What the variables of the packages hold, in the world w. -/
structure Env (w : World) : Prop where
  size : 10 ≤ w.heap.size
  maxLen : ∃ m, w.cell? ⟨3, 0, none⟩ = some (.int .i64 m)
  pow : Lib.TabIs Tryz.prog w "internal/strconv.uint64pow10" .u64 Lib.pow10Tab
  root0 : w.cell? ⟨0, 0, none⟩ = some (.int .i64 0)
  root1 : w.cell? ⟨0, 1, none⟩ = some (.int .i64 0)
  trash0 : w.cell? ⟨1, 0, none⟩ = some (.int .i64 1)
  trash1 : w.cell? ⟨1, 1, none⟩ = some (.int .i64 0)
  errS : ∃ tp p, w.var? Tryz.prog "strconv.ErrSyntax" = some #[.iface tp p]
  errR : ∃ tp p, w.var? Tryz.prog "strconv.ErrRange" = some #[.iface tp p]

theorem var_keep {w w' : World} {name : String} {g : Nat} {vs : Array Value} (hg : Tryz.prog.globalNamed name = some g)
    (hb : w'.heap[g]? = w.heap[g]?) (h : w.var? Tryz.prog name = some vs) : w'.var? Tryz.prog name = some vs := by
  unfold World.var? at h ⊢
  rw [hg] at h ⊢
  simp only [Option.bind_some] at h ⊢
  rw [hb]
  exact h

theorem named_pow : Tryz.prog.globalNamed "internal/strconv.uint64pow10" = some 8 := by kernel_rfl
theorem named_errS : Tryz.prog.globalNamed "strconv.ErrSyntax" = some 6 := by kernel_rfl
theorem named_errR : Tryz.prog.globalNamed "strconv.ErrRange" = some 7 := by kernel_rfl

theorem Env.keep {w w' : World} (h : Env w) (hb : ∀ k, k < 10 → w'.heap[k]? = w.heap[k]?) (hs : w.heap.size ≤ w'.heap.size) : Env w' := by
  have hc : ∀ k o, k < 10 → w'.cell? ⟨k, o, none⟩ = w.cell? ⟨k, o, none⟩ := fun k o hk => World.cell?_of_block (w := w) (hb k hk)
  refine ⟨Nat.le_trans h.size hs, ?_, var_keep named_pow (hb _ (by decide)) h.pow, ?_, ?_, ?_, ?_, ?_, ?_⟩
  · obtain ⟨m, hm⟩ := h.maxLen; exact ⟨m, (hc _ _ (by decide)).trans hm⟩
  · exact (hc _ _ (by decide)).trans h.root0
  · exact (hc _ _ (by decide)).trans h.root1
  · exact (hc _ _ (by decide)).trans h.trash0
  · exact (hc _ _ (by decide)).trans h.trash1
  · obtain ⟨t, p, hp⟩ := h.errS; exact ⟨t, p, var_keep named_errS (hb _ (by decide)) hp⟩
  · obtain ⟨t, p, hp⟩ := h.errR; exact ⟨t, p, var_keep named_errR (hb _ (by decide)) hp⟩

theorem Env.keeps {S : Nat → Prop} {w w' : World} (h : Env w) (k : Keeps S w w') (hS : ∀ b, S b → 10 ≤ b) : Env w' :=
  h.keep (fun b hb => k.block b (Nat.lt_of_lt_of_le hb h.size) fun e => by have := hS b e; omega) k.size
theorem Env.no {w w' : World} (h : Env w) (k : Keeps No w w') : Env w' := h.keeps k fun _ e => e.elim
theorem Env.drew {w : World} (h : Env w) : Env w.drew := h.no ((Keeps.refl _ _).drew)
theorem Env.drewN {w : World} (h : Env w) (n : Nat) : Env (w.drewN n) := h.no ((Keeps.refl _ _).drewN n)
theorem Env.alloc {w : World} (h : Env w) (o : Obj) : Env (w.alloc o) := h.no ((Keeps.refl _ _).alloc o)
theorem Env.regrown {w : World} (h : Env w) (d : Nat) (os : Array Obj) : Env (Sort.grow (redrawn w d) os) := h.no (keeps_regrown w d os)
theorem Env.setCell {w : World} (h : Env w) {a : Addr} (ha : 10 ≤ a.block) (v : Value) : Env (w.setCell a v) :=
  h.keeps ((Keeps.refl (At1 a.block) _).setCell (fun _ => rfl) v) fun b e => by unfold At1 at e; omega

/-- the block b is a scanner's, with that much left -/
def Scan (b : Nat) (s : List UInt8) (w : World) : Prop := w.heap[b]? = some (.cells #[.string ⟨s.toArray⟩] 138 (0, 0))
theorem Scan.cell {b : Nat} {s : List UInt8} {w : World} (h : Scan b s w) : w.cell? ⟨b, 0, none⟩ = some (.string ⟨s.toArray⟩) := by
  unfold Scan at h; simp [World.cell?, h]
theorem Scan.free {b : Nat} {s : List UInt8} {w : World} (h : Scan b s w) (o : Nat) : w.frozen? ⟨b, o, none⟩ = false := by
  unfold Scan at h; simp [World.frozen?, h]
theorem Scan.lt {b : Nat} {s : List UInt8} {w : World} (h : Scan b s w) : b < w.heap.size := (Array.getElem?_eq_some_iff.1 h).1
theorem Scan.no {S : Nat → Prop} {b : Nat} {s : List UInt8} {w w' : World} (h : Scan b s w) (k : Keeps S w w') (hn : ¬ S b) : Scan b s w' := k.heap h hn
theorem Scan.other {b b' j : Nat} {s : List UInt8} {w : World} (h : Scan b s w) (hne : b ≠ b') (v : Value) : Scan b s (w.setCell ⟨b', j, none⟩ v) := heap_set_ne h hne v
theorem Scan.alloc {b : Nat} {s : List UInt8} {w : World} (h : Scan b s w) (o : Obj) : Scan b s (w.alloc o) := heap_alloc_keep h o
theorem Scan.grown {b : Nat} {s : List UInt8} {w w' : World} {row : Option Nat} (h : Scan b s w) (hg : w.grownBy w' row) (hr : ∀ k, row = some k → b < k) : Scan b s w' :=
  (hg.block b h.lt (fun e => by have := hr b e.symm; omega)).trans h
theorem Scan.set {b : Nat} {s : List UInt8} {w : World} (h : Scan b s w) (s' : List UInt8) : Scan b s' (w.setCell ⟨b, 0, none⟩ (.string ⟨s'.toArray⟩)) := by
  unfold Scan at h ⊢
  simp [World.setCell, Array.getElem?_modify, h]

end Go.Proofs.YtkpenijilnagjaaGreatDoor
