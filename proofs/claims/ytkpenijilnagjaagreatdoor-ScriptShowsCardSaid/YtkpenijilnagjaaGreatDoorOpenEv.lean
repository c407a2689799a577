/- A slice of events that came in, opened: the events that its cells tell, whose numbers are ints. -/
import Derived.Test.YtkpenijilnagjaaGreatDoorEvAll
import Derived.Deep.Slices
import Derived.Carry
import Derived.OpenShut
import Derived.ChangeArms
namespace Go.Proofs.YtkpenijilnagjaaGreatDoor
open Go.ChangeShapes Go.WideShapes Go.RowKit

theorem laidOut : laidOutB Tryz.prog = true := by kernel_rfl

instance : Inhabited Off.Ev := ⟨Off.Ev.z⟩

section
variable {H : Type} {enc : TypeId × Value → H} {w : World} {base : Nat} {spare : Nat → Bool} {held : Bool}
theorem some_at {α : Type} {xs : List α} {i : Nat} (h : i < xs.length) : ∃ y, xs[i]? = some y := ⟨_, List.getElem?_eq_getElem h⟩
set_option maxRecDepth 100000 in
theorem int_at {n : Nat} {cs : List Value} {y : DataW H × List MemPlace} (h : DataW.trod enc Tryz.prog w base spare held n 3 cs = some y) : ∃ z, cs = [.int .i64 z] ∧ Off.I64 z := by
  obtain ⟨z, h1, _, h3⟩ := DataW.trod_int Tryz.underlying3 h
  exact ⟨z, h1, bounds_i64 h3⟩
set_option maxRecDepth 100000 in
theorem id_at {n : Nat} {cs : List Value} {y : DataW H × List MemPlace} (h : DataW.trod enc Tryz.prog w base spare held n 34 cs = some y) :
    ∃ a b, cs = [.int .i64 a, .int .i64 b] ∧ Off.I64 a ∧ Off.I64 b := by
  obtain ⟨xs, m, _, _, hl, hx, hf⟩ := DataW.trod_struct Tryz.underlying34 h
  have hc : Tryz.prog.cellsOf 34 = 2 := by kernel_rfl
  have c1 : Tryz.prog.cellsOf 3 = 1 := by kernel_rfl
  rw [hc] at hl
  match cs, hl with
  | [u0, u1], _ =>
    obtain ⟨y0, e0⟩ := some_at (xs := xs) (i := 0) (by rw [hx]; decide)
    obtain ⟨y1, e1⟩ := some_at (xs := xs) (i := 1) (by rw [hx]; decide)
    have f0 : DataW.trod enc Tryz.prog w base spare held m 3 (([u0, u1].drop 0).take (Tryz.prog.cellsOf 3)) = xs[0]? := hf 0 _ rfl
    rw [c1, e0] at f0
    have f1 : DataW.trod enc Tryz.prog w base spare held m 3 (([u0, u1].drop 1).take (Tryz.prog.cellsOf 3)) = xs[1]? := hf 1 _ rfl
    rw [c1, e1] at f1
    obtain ⟨a, ha, ia⟩ := int_at f0
    obtain ⟨b, hb, ib⟩ := int_at f1
    simp at ha hb
    subst ha hb
    exact ⟨a, b, rfl, ia, ib⟩
set_option maxRecDepth 100000 in
theorem cmd_at {n : Nat} {cs : List Value} {y : DataW H × List MemPlace} (h : DataW.trod enc Tryz.prog w base spare held n 77 cs = some y) :
    ∃ c : Off.Cmd, cs = [.int .i64 c.kind, .int .i64 c.block.R, .int .i64 c.block.N, .int .i64 c.pos, .int .i64 c.n, .string ⟨c.text.toArray⟩, .bool c.flag, .int .i64 c.other.R, .int .i64 c.other.N] ∧
      Off.I64 c.block.R ∧ Off.I64 c.block.N ∧ Off.I64 c.other.R ∧ Off.I64 c.other.N ∧ Off.I64 c.pos ∧ Off.I64 c.n := by
  obtain ⟨xs, m, _, _, hl, hx, hf⟩ := DataW.trod_struct Tryz.underlying77 h
  have hc : Tryz.prog.cellsOf 77 = 9 := by kernel_rfl
  have c1 : Tryz.prog.cellsOf 3 = 1 := by kernel_rfl
  have c2 : Tryz.prog.cellsOf 34 = 2 := by kernel_rfl
  have c3 : Tryz.prog.cellsOf 9 = 1 := by kernel_rfl
  have c4 : Tryz.prog.cellsOf 4 = 1 := by kernel_rfl
  rw [hc] at hl
  match cs, hl with
  | [u0, u1, u2, u3, u4, u5, u6, u7, u8], _ =>
    obtain ⟨y0, e0⟩ := some_at (xs := xs) (i := 0) (by rw [hx]; decide)
    obtain ⟨y1, e1⟩ := some_at (xs := xs) (i := 1) (by rw [hx]; decide)
    obtain ⟨y2, e2⟩ := some_at (xs := xs) (i := 2) (by rw [hx]; decide)
    obtain ⟨y3, e3⟩ := some_at (xs := xs) (i := 3) (by rw [hx]; decide)
    obtain ⟨y4, e4⟩ := some_at (xs := xs) (i := 4) (by rw [hx]; decide)
    obtain ⟨y5, e5⟩ := some_at (xs := xs) (i := 5) (by rw [hx]; decide)
    obtain ⟨y6, e6⟩ := some_at (xs := xs) (i := 6) (by rw [hx]; decide)
    have f0 : DataW.trod enc Tryz.prog w base spare held m 3 (([u0, u1, u2, u3, u4, u5, u6, u7, u8].drop 0).take (Tryz.prog.cellsOf 3)) = xs[0]? := hf 0 _ rfl
    rw [c1, e0] at f0
    have f1 : DataW.trod enc Tryz.prog w base spare held m 34 (([u0, u1, u2, u3, u4, u5, u6, u7, u8].drop 1).take (Tryz.prog.cellsOf 34)) = xs[1]? := hf 1 _ rfl
    rw [c2, e1] at f1
    have f2 : DataW.trod enc Tryz.prog w base spare held m 3 (([u0, u1, u2, u3, u4, u5, u6, u7, u8].drop 3).take (Tryz.prog.cellsOf 3)) = xs[2]? := hf 2 _ rfl
    rw [c1, e2] at f2
    have f3 : DataW.trod enc Tryz.prog w base spare held m 3 (([u0, u1, u2, u3, u4, u5, u6, u7, u8].drop 4).take (Tryz.prog.cellsOf 3)) = xs[3]? := hf 3 _ rfl
    rw [c1, e3] at f3
    have f4 : DataW.trod enc Tryz.prog w base spare held m 9 (([u0, u1, u2, u3, u4, u5, u6, u7, u8].drop 5).take (Tryz.prog.cellsOf 9)) = xs[4]? := hf 4 _ rfl
    rw [c3, e4] at f4
    have f5 : DataW.trod enc Tryz.prog w base spare held m 4 (([u0, u1, u2, u3, u4, u5, u6, u7, u8].drop 6).take (Tryz.prog.cellsOf 4)) = xs[5]? := hf 5 _ rfl
    rw [c4, e5] at f5
    have f6 : DataW.trod enc Tryz.prog w base spare held m 34 (([u0, u1, u2, u3, u4, u5, u6, u7, u8].drop 7).take (Tryz.prog.cellsOf 34)) = xs[6]? := hf 6 _ rfl
    rw [c2, e6] at f6
    obtain ⟨a0, h0, i0⟩ := int_at f0
    obtain ⟨a1, b1, h1, i1, j1⟩ := id_at f1
    obtain ⟨a2, h2, i2⟩ := int_at f2
    obtain ⟨a3, h3, i3⟩ := int_at f3
    obtain ⟨s4, h4, _, _⟩ := DataW.trod_string Tryz.underlying9 f4
    obtain ⟨b5, h5, _⟩ := DataW.trod_bool Tryz.underlying4 f5
    obtain ⟨a6, b6, h6, i6, j6⟩ := id_at f6
    simp at h0 h1 h2 h3 h4 h5 h6
    obtain ⟨h1, h1'⟩ := h1
    obtain ⟨h6, h6'⟩ := h6
    subst h0 h1 h1' h2 h3 h4 h5 h6 h6'
    exact ⟨⟨a0, ⟨a1, b1⟩, a2, a3, s4.data.toList, b5, ⟨a6, b6⟩⟩, by simp, i1, j1, i6, j6, i2, i3⟩
set_option maxRecDepth 100000 in
theorem ev_at {n : Nat} {cs : List Value} {y : DataW H × List MemPlace} (h : DataW.trod enc Tryz.prog w base spare held n 79 cs = some y) :
    ∃ e : Off.Ev, cs = evCells e ∧ EvNums e := by
  obtain ⟨xs, m, _, _, hl, hx, hf⟩ := DataW.trod_struct Tryz.underlying79 h
  have hc : Tryz.prog.cellsOf 79 = 14 := by kernel_rfl
  have c1 : Tryz.prog.cellsOf 3 = 1 := by kernel_rfl
  have c2 : Tryz.prog.cellsOf 77 = 9 := by kernel_rfl
  have c4 : Tryz.prog.cellsOf 4 = 1 := by kernel_rfl
  rw [hc] at hl
  match cs, hl with
  | [u0, u1, u2, u3, u4, u5, u6, u7, u8, u9, u10, u11, u12, u13], _ =>
    obtain ⟨y0, e0⟩ := some_at (xs := xs) (i := 0) (by rw [hx]; decide)
    obtain ⟨y1, e1⟩ := some_at (xs := xs) (i := 1) (by rw [hx]; decide)
    obtain ⟨y2, e2⟩ := some_at (xs := xs) (i := 2) (by rw [hx]; decide)
    obtain ⟨y3, e3⟩ := some_at (xs := xs) (i := 3) (by rw [hx]; decide)
    obtain ⟨y4, e4⟩ := some_at (xs := xs) (i := 4) (by rw [hx]; decide)
    obtain ⟨y5, e5⟩ := some_at (xs := xs) (i := 5) (by rw [hx]; decide)
    have f0 : DataW.trod enc Tryz.prog w base spare held m 3 (([u0, u1, u2, u3, u4, u5, u6, u7, u8, u9, u10, u11, u12, u13].drop 0).take (Tryz.prog.cellsOf 3)) = xs[0]? := hf 0 _ rfl
    rw [c1, e0] at f0
    have f1 : DataW.trod enc Tryz.prog w base spare held m 3 (([u0, u1, u2, u3, u4, u5, u6, u7, u8, u9, u10, u11, u12, u13].drop 1).take (Tryz.prog.cellsOf 3)) = xs[1]? := hf 1 _ rfl
    rw [c1, e1] at f1
    have f2 : DataW.trod enc Tryz.prog w base spare held m 3 (([u0, u1, u2, u3, u4, u5, u6, u7, u8, u9, u10, u11, u12, u13].drop 2).take (Tryz.prog.cellsOf 3)) = xs[2]? := hf 2 _ rfl
    rw [c1, e2] at f2
    have f3 : DataW.trod enc Tryz.prog w base spare held m 3 (([u0, u1, u2, u3, u4, u5, u6, u7, u8, u9, u10, u11, u12, u13].drop 3).take (Tryz.prog.cellsOf 3)) = xs[3]? := hf 3 _ rfl
    rw [c1, e3] at f3
    have f4 : DataW.trod enc Tryz.prog w base spare held m 4 (([u0, u1, u2, u3, u4, u5, u6, u7, u8, u9, u10, u11, u12, u13].drop 4).take (Tryz.prog.cellsOf 4)) = xs[4]? := hf 4 _ rfl
    rw [c4, e4] at f4
    have f5 : DataW.trod enc Tryz.prog w base spare held m 77 (([u0, u1, u2, u3, u4, u5, u6, u7, u8, u9, u10, u11, u12, u13].drop 5).take (Tryz.prog.cellsOf 77)) = xs[5]? := hf 5 _ rfl
    rw [c2, e5] at f5
    obtain ⟨a0, h0, i0⟩ := int_at f0
    obtain ⟨a1, h1, i1⟩ := int_at f1
    obtain ⟨a2, h2, i2⟩ := int_at f2
    obtain ⟨a3, h3, i3⟩ := int_at f3
    obtain ⟨b4, h4, _⟩ := DataW.trod_bool Tryz.underlying4 f4
    obtain ⟨c, h5, j⟩ := cmd_at f5
    simp at h0 h1 h2 h3 h4 h5
    obtain ⟨k0, k1, k2, k3, k4, k5, k6, k7, k8⟩ := h5
    subst h0 h1 h2 h3 h4 k0 k1 k2 k3 k4 k5 k6 k7 k8
    exact ⟨⟨a0, a1, a2, a3, b4, c⟩, rfl, i1, i2, i3, j.1, j.2.1, j.2.2.1, j.2.2.2.1, j.2.2.2.2.1, j.2.2.2.2.2⟩

set_option maxRecDepth 100000 in
theorem evs_open {v : Value} {d : DataW H} {p : List MemPlace} (hv : Value.okWide Tryz.prog w .any 0 23 v) (h : DataW.Trod enc Tryz.prog w 0 (fun _ => true) true 23 v d p) :
    ∃ l : List Off.Ev, EvLies v l w ∧ ∀ e ∈ l, EvNums e := by
  obtain ⟨a0, n0, c0, rfl⟩ := okWide_slice Tryz.underlying23 hv
  obtain ⟨fuel, hf⟩ := h
  have hce : Tryz.prog.cellsOf 79 = 14 := by kernel_rfl
  rcases Deep.open_slice Tryz.underlying23 hf with ⟨h1, _⟩ | ⟨a, len, cap, m, n, D, Pl, h1, _, hl, _, hm, _, hx⟩
  · have h1' : Value.slice a0 n0 c0 = .slice none 0 0 := by simpa [Value.cells] using h1
    obtain ⟨rfl, rfl, rfl⟩ : a0 = none ∧ n0 = 0 ∧ c0 = 0 := by simpa using h1'
    exact ⟨[], ⟨none, 0, rfl, fun e => absurd rfl e⟩, by simp⟩
  · have h1' : Value.slice a0 n0 c0 = .slice (some a) len cap := by simpa [Value.cells] using h1
    obtain ⟨rfl, rfl, rfl⟩ : a0 = some a ∧ n0 = len ∧ c0 = cap := by simpa using h1'
    have hle : n0 ≤ m := by rw [hm]; simpa using hl
    obtain ⟨E, hE⟩ := Deep.choose_lt (α := Off.Ev) (n := n0) (p := fun i e => w.cells? 0 (a.add (i * 14)) 14 = some (evCells e) ∧ EvNums e) (fun i hi => by
      obtain ⟨cs', h2, h3⟩ := hx i (by omega)
      rw [hce] at h2
      obtain ⟨e, rfl, he⟩ := ev_at h3
      exact ⟨e, h2, he⟩)
    have hlen : ((List.range n0).map E).length = n0 := by simp
    refine ⟨(List.range n0).map E, ⟨some a, c0, by rw [hlen], fun hne => ?_⟩, ?_⟩
    · have h0 : 0 < n0 := by
        rcases Nat.eq_zero_or_pos n0 with h | h
        · subst h; exact absurd rfl hne
        · exact h
      obtain ⟨g, o, sp⟩ := a
      have hc0 := (World.cells?_some (hE 0 h0).1).2.2 0 (by decide)
      have hsp : sp = none := by simpa [Addr.add] using World.cell?_spot (hc0.trans (List.getElem?_eq_getElem (by rw [evCells_len]; decide)))
      subst hsp
      have hadd : ∀ j, (⟨g, o, none⟩ : Addr).add j = ⟨g, o + j, none⟩ := fun j => Go.WideShapes.add_plain g o j
      refine ⟨g, o, rfl, ?_, fun j u hj => ?_⟩
      · exact World.block_lt_of_cell? _ _ (hc0.trans (List.getElem?_eq_getElem (by rw [evCells_len]; decide)))
      · have hjl := (List.getElem?_eq_some_iff.1 hj).1
        rw [flat_len, hlen] at hjl
        have hk : j / 14 < n0 := by omega
        have hr : j % 14 < 14 := Nat.mod_lt _ (by decide)
        have hj2 : j = (j / 14) * 14 + j % 14 := by omega
        rw [hj2, flat_at _ (j / 14) (j % 14) (by rw [hlen]; exact hk) hr] at hj
        have hcell := (World.cells?_some (hE (j / 14) hk).1).2.2 (j % 14) hr
        rw [Deep.add_add, hadd, ← hj2] at hcell
        rw [hcell]
        simpa using hj
    · intro e he
      obtain ⟨i, hi, rfl⟩ := List.mem_map.1 he
      exact (hE i (by simpa using hi)).2
end

end Go.Proofs.YtkpenijilnagjaaGreatDoor
