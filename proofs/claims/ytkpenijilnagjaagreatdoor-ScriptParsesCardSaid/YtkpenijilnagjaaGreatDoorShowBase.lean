/- What the walks of show share. -/
import Derived.Test.YtkpenijilnagjaaGreatDoorDisp
import Derived.Test.YtkpenijilnagjaaGreatDoorBuild
import Derived.Test.YtkpenijilnagjaaGreatDoorRight
import Derived.Test.YtkpenijilnagjaaGreatDoorEqEv
namespace Go.Proofs.YtkpenijilnagjaaGreatDoor
open Go.RowKit

theorem cells_regrown {W : World} {b : Nat} {cs : Array Value} {T : TypeId} {fr : Nat × Nat} (h : W.heap[b]? = some (.cells cs T fr)) (d : Nat) (os : Array Obj) (j : Nat) :
    (Sort.grow (redrawn W d) os).cell? ⟨b, j, none⟩ = cs[j]? :=
  (World.cell?_of_block (w := W) ((below_regrown W d os).block b (heap_lt h))).trans (Lib.cell_of_heap h j)

/-- an event whose line the walk can tell: its numbers are ints, its text is not too long -/
def EvFits (e : Off.Ev) : Prop := Off.I64 e.n ∧ Off.I64 e.to ∧ Off.I64 e.keep ∧ CmdFits e.cmd

/-- how show ends -/
def ShowPost (w : World) (ev : Off.Ev) (e : Ending) (w' : World) : Prop :=
  e = .returned (.tuple #[.string ⟨(Off.evLine ev).toArray⟩, .bool (Off.evOk ev)]) ∧ Keeps No w w'

/-- a line's words, as Join finds them -/
theorem LineIs.row {b : Nat} {v : Value} {ws : List (List UInt8)} {w : World} (h : LineIs b v ws w) (h0 : ws ≠ []) :
    ∃ g cap, v = .slice (some ⟨g, 0, none⟩) ws.length cap ∧ ws.length ≤ cap ∧ g < w.heap.size ∧ ∀ j u, (ws.map strV)[j]? = some u → w.cell? ⟨g, j, none⟩ = some u := by
  have hown := h.2
  rcases hown.2 with ⟨_, hz⟩ | ⟨g, cap, cur, hv, _, hg, hc, _⟩
  · exact absurd (List.eq_nil_of_length_eq_zero hz) h0
  · refine ⟨g, cap, hv, hc, heap_lt hg, fun j u hj => ?_⟩
    have hadd : (⟨g, 0, none⟩ : Addr).add j = ⟨g, j, none⟩ := by unfold Addr.add; split <;> simp_all
    have := hown.cells (g := g) (by rw [hv]; rfl) j u hj
    rwa [hadd] at this

theorem join_regrown (g c : Nat) (ws : List (List UInt8)) (W : World) (hc : ∀ j u, (ws.map strV)[j]? = some u → W.cell? ⟨g, j, none⟩ = some u) (hg : g < W.heap.size) (hcap : ws.length ≤ c)
    (hN : ws.length ≤ 1000) (hl : (Off.joinW ws).length ≤ 140737488355328) (d : Nat) (os : Array Obj) :
    Calls Tryz.prog 77 #[.slice (some ⟨g, 0, none⟩) ws.length c, .string ⟨#[32]⟩] (Sort.grow (redrawn W d) os) fun e w'' =>
      e = .returned (.string ⟨(Off.joinW ws).toArray⟩) ∧ ∃ p : Regrown, w'' = Sort.grow (redrawn W p.d) p.os :=
  calls_regrown (lib_join g c ws _ (fun j u hj => cell_regrown (hc j u hj) d os) (Nat.lt_of_lt_of_le hg (below_regrown W d os).size) hcap hN hl)
theorem right_regrown (e : Off.Ev) (W : World) (hE : Env W) (d : Nat) (os : Array Obj) :
    Calls Tryz.prog 78 #[evV e] (Sort.grow (redrawn W d) os) fun x w'' => x = .returned (.bool (Off.rightEv e)) ∧ ∃ p : Regrown, w'' = Sort.grow (redrawn W p.d) p.os :=
  calls_regrown (right_any e _ (hE.regrown d os))

theorem Keeps.line_no {b : Nat} {w w1 w2 : World} (h : Keeps No w w1) (h' : Keeps (LS b w1) w1 w2) (hb : w.heap.size ≤ b) : Keeps No w w2 :=
  h.step h' fun k hk hlt => by rcases hk with rfl | ⟨h1, _⟩ <;> omega

theorem joinW_len : ∀ ws : List (List UInt8), (Off.joinW ws).length ≤ (ws.map fun x => x.length + 1).sum
  | [] => by simp [Off.joinW]
  | [a] => by simp [Off.joinW]
  | a :: b :: r => by
    have ih := joinW_len (b :: r)
    simp only [Off.joinW, List.length_append, List.length_cons, List.map_cons, List.sum_cons] at ih ⊢
    omega
theorem quoted_len (s : List UInt8) : (Off.quoted s).length ≤ 3 * s.length + 2 := by
  have : ∀ l : List UInt8, (l.flatMap Off.quoteByte).length ≤ 3 * l.length := by
    intro l
    induction l with
    | nil => simp
    | cons c l ih =>
      rw [List.flatMap_cons, List.length_append, List.length_cons]
      have : (Off.quoteByte c).length ≤ 3 := by unfold Off.quoteByte; split <;> simp
      omega
  unfold Off.quoted
  have := this s
  simp only [List.length_cons, List.length_append, List.length_nil]
  omega
theorem showId_len (i : Off.Bid) (h1 : Off.I64 i.R) (h2 : Off.I64 i.N) : (Off.showId i).length ≤ 1000 := by
  have l1 := itoa_len i.R h1
  have l2 := itoa_len i.N h2
  unfold Off.showId
  split
  · decide
  · split
    · decide
    · split
      · decide
      · simp only [List.length_append, List.length_cons]; omega
theorem plainW_len (c : Off.Cmd) : (Off.plainW c).length ≤ 10 := by
  unfold Off.plainW
  repeat' split
  all_goals decide
theorem whereW_len (f : Bool) : (Off.whereW f).length ≤ 10 := by cases f <;> decide
theorem cmdWords_len (c : Off.Cmd) (h : CmdFits c) : ((Off.cmdWords c).map fun x => x.length + 1).sum ≤ 100000000 := by
  obtain ⟨h1, h2, h3, h4, h5, h6, h7⟩ := h
  have a1 := showId_len c.block h1 h2
  have a2 := showId_len c.other h3 h4
  have a3 := itoa_len c.pos h5
  have a4 := itoa_len c.n h6
  have a5 := quoted_len c.text
  have a6 := plainW_len c
  have a7 := whereW_len c.flag
  unfold Off.cmdWords
  repeat' split
  all_goals (simp [Off.sNew, Off.sType, Off.sErase, Off.sSplit, Off.sMove, Off.sPlace]; omega)
theorem cmdWords_few (c : Off.Cmd) : (Off.cmdWords c).length ≤ 4 := by
  unfold Off.cmdWords
  repeat' split
  all_goals simp
theorem evLine_len (e : Off.Ev) (h : EvFits e) : (Off.evLine e).length ≤ 140737488355328 := by
  obtain ⟨h1, h2, h3, h4⟩ := h
  have a1 := itoa_len e.n h1
  have a2 := itoa_len e.to h2
  have a3 := itoa_len e.keep h3
  have a4 := cmdWords_len e.cmd h4
  refine Nat.le_trans (joinW_len _) ?_
  unfold Off.evWords
  split
  · simp only [List.map_append, List.sum_append, List.map_cons, List.map_nil, List.sum_cons, List.sum_nil, Off.sDo, List.length_cons, List.length_nil]; have a5 : (List.map (fun x : Off.Bs => x.length + 1) (Off.cmdWords e.cmd)).sum ≤ 100000000 := a4; refine Nat.le_trans (Nat.add_le_add_left a5 _) ?_; omega
  · repeat' split
    all_goals (simp [Off.sSync, Off.sCompact, Off.sStart, Off.sDrop, Off.sCrash, Off.sTell, Off.sDeliver, Off.sCopy]; try omega)

theorem evOk_eq {e told : Off.Ev} (h : Off.evTold e = told) (hw : 0 < (Off.evWords e).length) : Off.evOk e = (evSame told e && Off.rightEv e) := by
  unfold Off.evOk evSame
  rw [h, decide_eq_true hw, Bool.and_true]

end Go.Proofs.YtkpenijilnagjaaGreatDoor
