/- DocRefuses: the walk. -/
import Derived.Test.YthfjefcljeamgaaGreatDoorLwE
namespace Go.Proofs.YthfjefcljeamgaaGreatDoor
set_option maxRecDepth 100000
set_option maxHeartbeats 4000000
open Go.RowKit
attribute [local go_sem ↓] Go.wp_at_zero Go.wp_at_succ
/-- the document of a row of ops -/
noncomputable def docOf (l : List Dc.Op) : Dc.Doc := l.foldl Dc.Doc.act Dc.Doc.new
theorem fold_full : ∀ (l : List Dc.Op) (d : Dc.Doc), Dc.DocFull d → Dc.DocFull (l.foldl Dc.Doc.act d)
 | [], _, h => h
 | o :: l, d, h => fold_full l (d.act o) (h.act o)
theorem docOf_full (l : List Dc.Op) : Dc.DocFull (docOf l) := fold_full l _ Dc.DocFull.new
theorem act_ops (d : Dc.Doc) (o : Dc.Op) : (d.act o).ops.length ≤ d.ops.length + 1 := by
 unfold Dc.Doc.act
 split
 ·show (d.ops ++ [o]).length ≤ _
  simp
 ·omega
theorem fold_ops : ∀ (l : List Dc.Op) (d : Dc.Doc), (l.foldl Dc.Doc.act d).ops.length ≤ d.ops.length + l.length
 | [], _ => Nat.le_refl _
 | o :: l, d => by
  have h1 := fold_ops l (d.act o)
  have h2 := act_ops d o
  simp only [List.foldl_cons, List.length_cons]
  omega
theorem docOf_ops (l : List Dc.Op) : (docOf l).ops.length ≤ l.length := by
 have := fold_ops l Dc.Doc.new
 have h0 : Dc.Doc.new.ops.length = 0 := rfl
 unfold docOf
 omega
theorem docOf_take {l : List Dc.Op} {k : Nat} (hk : k < l.length) : docOf (l.take (k + 1)) = (docOf (l.take k)).act (l[k]'hk) := by
 unfold docOf
 rw [List.take_add_one, List.getElem?_eq_getElem hk, List.foldl_append]
 rfl
theorem OpsArg.form {v : Value} {l : List Dc.Op} {w : World} (h : OpsArg v l w) : ∃ ao c, v = .slice ao l.length c ∧ l.length ≤ maxLen := by
 obtain ⟨ps, rfl, ⟨h0, ao, c, rfl, _⟩, _⟩ := h
 exact ⟨ao, c, by rw [List.length_map], by rw [List.length_map]; exact h0⟩
/-- one op of the argument -/
theorem OpsArg.at {v : Value} {l : List Dc.Op} {w : World} (h : OpsArg v l w) {k : Nat} (hk : k < l.length) : ∃ g of c sa sc, v = .slice (some ⟨g, of, none⟩) l.length c ∧ g < w.heap.size ∧ w.rangeAt g (of + k * 20) (opArr (l[k]'hk) (.slice sa (l[k]'hk).cuts.length sc)).toList ∧
  Lies 4 cutCells (.slice sa (l[k]'hk).cuts.length sc) (l[k]'hk).cuts w := by
 obtain ⟨ps, rfl, h2, h3⟩ := h
 rw [List.length_map] at hk
 obtain ⟨_, ao, c, rfl, _, _, h5⟩ := id h2
 obtain ⟨g, of, rfl, hgl, _⟩ := h5 (by intro e; rw [e] at hk; simp at hk)
 have hr := h2.range hk (Nat.le_refl _)
 have hc := (h3 _ (List.getElem_mem hk)).1
 have hn : (ps[k]'hk).2.n = (ps[k]'hk).1.cuts.length := by
  obtain ⟨_, ao, c, e, _⟩ := hc
  have e' : Value.slice (ps[k]'hk).2.a (ps[k]'hk).2.n (ps[k]'hk).2.c = .slice ao (ps[k]'hk).1.cuts.length c := e
  injection e'
 simp only [List.getElem_map, List.length_map]
 have hv : (ps[k]'hk).2.v = .slice (ps[k]'hk).2.a (ps[k]'hk).1.cuts.length (ps[k]'hk).2.c := by unfold Sl.v; rw [hn]
 refine ⟨g, of, c, (ps[k]'hk).2.a, (ps[k]'hk).2.c, rfl, hgl, ?_, hv ▸ hc⟩
 rw [← hv]
 exact hr
/-- the document's part of a row of ops that is not too great -/
theorem great_false {l : List Dc.Op} (h : greatOps l = false) : l.length ≤ 40 ∧ ∀ o ∈ l, o.text.length ≤ 200 ∧ o.cuts.length ≤ 40 := by
 unfold greatOps at h
 rw [Bool.or_eq_false_iff] at h
 exact ⟨(long_false h.1).1, fun o ho => ⟨((long_false h.1).2 o ho).1, ((long_false h.1).2 o ho).2.2⟩⟩
end Go.Proofs.YthfjefcljeamgaaGreatDoor
