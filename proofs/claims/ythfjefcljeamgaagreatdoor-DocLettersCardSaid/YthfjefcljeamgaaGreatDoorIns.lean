/- slices.Insert of one element at the document's rows of structures. -/
import Derived.Test.YthfjefcljeamgaaGreatDoorStruct
import Derived.Outline
namespace Go.Proofs.YthfjefcljeamgaaGreatDoor
set_option maxRecDepth 100000
set_option maxHeartbeats 4000000
open Go.RowKit
theorem infoChild : (Tryz.prog.info? 278).map (fun i => (i.zero, i.size, i.bytes)) = some (some (.agg #[.string ⟨#[]⟩, .int .i64 0, .int .i64 0]), 3, 32) := by kernel_rfl
theorem oneChild (x : Dc.Child) : ∀ u ∈ childCells x, u.oneCell' = true := fun u hu => List.all_eq_true.1 (show (childCells x).all (·.oneCell') = true from rfl) u hu
theorem lenChild (x : Dc.Child) : (childCells x).length = 3 := rfl
theorem insChild_end (v : Value) (l : List Dc.Child) (x : Dc.Child) (vb : Nat) (w : World) (hrow : RowIs 278 3 childCells v l w) (hvb : w.heap[vb]? = some (.cells (childCells x).toArray 278 (0, 0))) (hne : v.ownBlock ≠ some vb) (hbig : (l.length + 1) * 32 ≤ 140737488355328) :
  Calls Tryz.prog 176 #[v, .int .i64 l.length, .slice (some ⟨vb, 0, none⟩) 1 1] w (InsPost 278 3 childCells v (Dc.insertAt l l.length x) w) := by
 obtain ⟨i0, hi, hz0, hz1, hz2⟩ := info_parts infoChild
 have hown : w.ownsRow 0 278 3 v l.length (l.flatMap childCells) := hrow
 have hlm := hrow.len_le
 have hnews : ∀ j u, (childCells x)[j]? = some u → w.cell? ((⟨vb, 0, none⟩ : Addr).add j) = some u := fun j u hj => by
  have hadd : (⟨vb, 0, none⟩ : Addr).add j = ⟨vb, j, none⟩ := by unfold Addr.add; split <;> simp_all
  rw [hadd, Cx hvb]; simpa using hj
 have hfin : ∀ v' w', w'.ownsRow 0 278 3 v' (l.length + 1) (l.flatMap childCells ++ childCells x) → w.grownBy w' v.ownBlock → (v'.ownBlock = v.ownBlock ∨ v'.ownBlock = some w.heap.size) → InsPost 278 3 childCells v (Dc.insertAt l l.length x) w (.returned v') w' := by
  intro v' w' h1 h2 h3
  refine ⟨v', rfl, ?_, ⟨h2.os, h2.tape, h2.output, h2.size, fun k hk hn => h2.block k hk fun e => hn e.symm⟩, fun g hg => ?_⟩
  ·unfold RowIs
   rw [Dc.length_insertAt (Nat.le_refl _), flat_insert, List.take_length, List.drop_length]
   simpa using h1
  ·rcases h3 with h3 | h3
   ·exact .inl (h3 ▸ hg)
   ·rw [h3] at hg; cases hg; exact .inr (Nat.le_refl _)
 unfold maxLen at hlm
 rcases hrow.form with ⟨rfl, rfl⟩ | ⟨g, cap, cur, rfl, hg, hcap, hcm, _, _⟩
 ·have F := Hx hfin
  clear hfin hrow
  go_enter Tryz.func176, Tryz.ntmps176
  go_wp2_with (at_builtin; refine wpList_append_own_at _ rfl _ _ 275 rfl 0 278 i0 (.agg #[.string ⟨#[]⟩, .int .i64 0, .int .i64 0]) 3 32 Tryz.underlying275 hi hz0 hz1 hz2 rfl (by decide) _ _ _ rfl hown ⟨vb, 0, none⟩ 1 1 (childCells x) rfl rfl hnews (oneChild x) ?c3 ?c4 (Nat.zero_le _) ?_)
  case c3 => simp [maxLen]
  case c4 => simp
  intro v' w' h1 h2 _ h3
  have P := F.out v' w' (by simpa using h1) h2 h3
  obtain ⟨v2, e2, r2, k2, b2⟩ := P
  obtain rfl : v2 = v' := by injection e2 with e2; exact e2.symm
  have R2 := Hx r2
  obtain ⟨g2, c2, rfl, _⟩ := r2.at (by rw [Dc.length_insertAt (Nat.le_refl _)]; omega)
  clear h1 h2 h3 r2 e2
  go_wp2
  go_ret
  exact ⟨_, rfl, R2.out, k2, b2⟩
 ·have F := Hx hfin
  have hc0 : ¬ cap < l.length := by omega
  have hcm' : cap ≤ 9223372036854775807 := by unfold maxLen at hcm; omega
  generalize hN : l.length = n at *
  have HN := Hx hN
  clear hfin hrow hN
  by_cases hcn : cap = n
  all_goals
   go_enter Tryz.func176, Tryz.ntmps176
   go_wp2_with (at_builtin; refine wpList_append_own_at _ rfl _ _ 275 rfl 0 278 i0 (.agg #[.string ⟨#[]⟩, .int .i64 0, .int .i64 0]) 3 32 Tryz.underlying275 hi hz0 hz1 hz2 rfl (by decide) _ _ _ rfl (by first | exact hown | exact hcn ▸ hown) ⟨vb, 0, none⟩ 1 1 (childCells x) rfl rfl hnews (oneChild x) (by unfold maxLen; omega) (by omega) (Nat.zero_le _) ?_)
  all_goals
   intro v' w' h1 h2 _ h3
   have P := F.out v' w' (by first | exact h1 | (rw [← hcn]; exact h1)) (by first | exact h2 | (rw [← hcn]; exact h2)) (by first | exact h3 | (rw [← hcn]; exact h3))
   obtain ⟨v2, e2, r2, k2, b2⟩ := P
   obtain rfl : v2 = v' := by injection e2 with e2; exact e2.symm
   have R2 := Hx r2
   obtain ⟨g2, c2, rfl, _⟩ := r2.at (by rw [Dc.length_insertAt (by rw [HN.out]; exact Nat.le_refl _)]; omega)
   clear h1 h2 h3 r2 e2
   have Z := Hx (show InsPost 278 3 childCells _ (Dc.insertAt l n x) w _ w' from ⟨_, rfl, R2.out, k2, b2⟩)
   go_wp2
   go_ret
   exact Z.out
theorem insChild_grow (l : List Dc.Child) (x : Dc.Child) (i vb g cap : Nat) (w : World) (hrow : RowIs 278 3 childCells (.slice (some ⟨g, 0, none⟩) l.length cap) l w) (hi : i < l.length) (hvb : w.heap[vb]? = some (.cells (childCells x).toArray 278 (0, 0))) (hbig : (l.length + 1) * 32 ≤ 140737488355328) (hcap : cap = l.length) :
  Calls Tryz.prog 176 #[.slice (some ⟨g, 0, none⟩) l.length cap, .int .i64 i, .slice (some ⟨vb, 0, none⟩) 1 1] w (InsPost 278 3 childCells (.slice (some ⟨g, 0, none⟩) l.length cap) (Dc.insertAt l i x) w) := by
 subst hcap
 obtain ⟨i0, hii, hz0, hz1, hz2⟩ := info_parts infoChild
 obtain ⟨cur, hg, hcs, htk⟩ : ∃ cur, w.heap[g]? = some (.cells cur 278 (0, 0)) ∧ cur.size = l.length * 3 ∧ cur.toList.take (l.length * 3) = l.flatMap childCells := by
  rcases hrow.form with ⟨h, _⟩ | ⟨g', c', cur, h, h1, _, _, h4, h5⟩
  ·cases h
  ·simp only [Value.slice.injEq, Option.some.injEq, Addr.mk.injEq, and_true, true_and] at h
   obtain ⟨rfl, rfl⟩ := h
   exact ⟨cur, h1, h4, h5⟩
 have hgl := heap_lt hg
 have hvl := heap_lt hvb
 have hL : (l.flatMap childCells).length = l.length * 3 := flat_length lenChild l
 have hcell : ∀ j u, (l.flatMap childCells)[j]? = some u → w.cell? ⟨g, j, none⟩ = some u := fun j u hj => by
  rw [← htk] at hj
  rw [Cx hg, ← Array.getElem?_toList]
  rw [List.getElem?_take] at hj
  split at hj
  ·exact hj
  ·cases hj
 have hone : ∀ u ∈ l.flatMap childCells, u.oneCell' = true := fun u hu => by
  obtain ⟨y, _, hy⟩ := List.mem_flatMap.1 hu
  exact oneChild y u hy
 have hfin : ∀ (w' : World) (c' : Nat) (cur' : Array Value), w'.heap[w.heap.size]? = some (.cells cur' 278 (0, 0)) → cur'.size = c' * 3 → l.length + 1 ≤ c' → c' ≤ maxLen → cur'.toList.take ((l.length + 1) * 3) = (l.take i).flatMap childCells ++ childCells x ++ (l.drop i).flatMap childCells → Keeps No w w' →
   InsPost 278 3 childCells (.slice (some ⟨g, 0, none⟩) l.length l.length) (Dc.insertAt l i x) w (.returned (.slice (some ⟨w.heap.size, 0, none⟩) (l.length + 1) c')) w' := by
  intro w' c' cur' h1 h2 h3 h4 h5 h6
  have hl2 : (Dc.insertAt l i x).length = l.length + 1 := Dc.length_insertAt (by omega)
  refine ⟨_, rfl, ⟨by rw [flat_length lenChild], .inr ⟨w.heap.size, c', cur', by rw [hl2], Nat.zero_le _, h1, by omega, h4, h2, by rw [hl2, flat_insert]; exact h5⟩⟩, h6.any, fun k hk => ?_⟩
  have hk' : some w.heap.size = some k := hk
  injection hk' with hk'
  exact .inr (by omega)
 generalize hN : l.length = n at *
 have HN := Hx hN
 generalize hLL : l.flatMap childCells = L at *
 have HL := Hx hLL
 have hold : (Builtin.firstCells i0.size i (.slice (some ⟨g, 0, none⟩) i n)).run Tryz.prog w.drew = .ok (L.take (i * 3)).toArray w.drew := by
  rw [hz1]
  exact run_firstCells_some w.drew 3 i ⟨g, 0, none⟩ i n (L.take (i * 3)) (by rw [List.length_take]; omega) (fun j v hj => by
   have hadd : (⟨g, 0, none⟩ : Addr).add j = ⟨g, j, none⟩ := by unfold Addr.add; split <;> simp_all
   rw [hadd]
   rw [List.getElem?_take] at hj
   split at hj
   ·exact hcell j v hj
   ·cases hj)
 have hkk : (n : Int) + 1 - (i : Int) = ((n + 1 - i : Nat) : Int) := by omega
 have hik : i + (n + 1 - i) = n + 1 := by omega
 obtain ⟨G, hG⟩ : ∃ G, G = grownCap w (n + 1) n 278 := ⟨_, rfl⟩
 have hGn : n + 1 ≤ G := by rw [hG]; exact grownCap_ge w _ _ _
 have hGm : G ≤ maxLen := by rw [hG]; exact grownCap_le_maxLen w (n + 1) n 278 (by unfold maxLen; omega)
 obtain ⟨ROW, hROW⟩ : ∃ ROW : Array Value, ROW = (L.take (i * 3)).toArray ++ Builtin.zeroCells (.agg #[.string ⟨#[]⟩, .int .i64 0, .int .i64 0] : Value).cells (n + 1 - i) ++ Builtin.zeroCells (.agg #[.string ⟨#[]⟩, .int .i64 0, .int .i64 0] : Value).cells (G - (n + 1)) := ⟨_, rfl⟩
 have hRs : ROW.size = G * 3 := by
  rw [hROW]
  simp only [Array.size_append, List.size_toArray, List.length_take, size_zeroCells, hL]
  simp only [Value.cells]
  simp
  omega
 have hrz : ∀ ty, (Builtin.append_ #[275, 3] ty #[.slice (some ⟨g, 0, none⟩) i n, .int .i64 ((n : Int) + 1 - (i : Int))]).run Tryz.prog w = .ok (.slice (some ⟨w.heap.size, 0, none⟩) (n + 1) G) ((w.alloc (.cells ROW 278)).drew) := fun ty => by
  have h := Lib.run_append_grow_zeros w 275 3 ty 278 i0 _ .i64 .i64 Tryz.underlying275 Tryz.underlying3 hii hz0 (some ⟨g, 0, none⟩) i n (L.take (i * 3)) hold (n + 1 - i) (by omega) (by omega) (by omega) (by omega) (by rw [hz2]; omega) (by rw [hz2, hik]; exact growslice_fits (by omega) hbig)
  rw [hik] at h
  rw [hkk, hROW, hG]
  exact h
 have hW1 : ((w.alloc (.cells ROW 278)).drew).heap[w.heap.size]? = some (.cells ROW 278 (0, 0)) := Nx w.drew _
 have hcpA : ∀ ty dc, (Builtin.copy_ #[275, 275] ty #[.slice (some ⟨w.heap.size, i * 3, none⟩) (n + 1 - i) dc, .slice (some ⟨vb, 0, none⟩) 1 1]).run Tryz.prog ((w.alloc (.cells ROW 278)).drew) = .ok (goInt (Nat.min 1 (n + 1 - i))) (((w.alloc (.cells ROW 278)).drew).setCells w.heap.size (i * 3) (childCells x)) := fun ty dc =>
  run_copy_k _ _ _ ty 278 3 w.heap.size (i * 3) (n + 1 - i) dc ⟨vb, 0, none⟩ 1 1 (childCells x) Tryz.underlying275 Rx (by rw [lenChild, show Nat.min 1 (n + 1 - i) = 1 from by simp only [Nat.min_def]; split <;> omega])
   (fun j u hj => by
    have hadd : (⟨vb, 0, none⟩ : Addr).add j = ⟨vb, j, none⟩ := by unfold Addr.add; split <;> simp_all
    rw [hadd]; show (w.alloc (.cells ROW 278)).cell? ⟨vb, j, none⟩ = some u; rw [World.cell?_alloc_past (w := w) _ vb j hvl]
    exact (Cx hvb j).trans (by simpa using hj))
   hW1 (by rw [lenChild, hRs]; omega) (oneChild x)
 obtain ⟨cur2, h2, h2l⟩ := heap_setCells (childCells x) (i * 3) _ ROW hW1 (by rw [lenChild, hRs]; omega)
 have h2s : cur2.size = G * 3 := by
  have := congrArg List.length h2l
  simp only [Array.length_toList, List.length_append, List.length_take, List.length_drop, lenChild, hRs] at this
  omega
 obtain ⟨W2, hW2⟩ : ∃ W2, W2 = ((w.alloc (.cells ROW 278)).drew).setCells w.heap.size (i * 3) (childCells x) := ⟨_, rfl⟩
 have kk2 : Keeps No w W2 := by
  rw [hW2]
  refine (((Keeps.refl No w).alloc (.cells ROW 278)).drew).step (keeps_setCells _ _ _ (Keeps.refl (At1 w.heap.size) _)) fun k hk hlt => ?_
  unfold At1 at hk; omega
 rw [← hW2] at hcpA h2
 have hcpB : ∀ (W : World), W.heap = W2.heap → ∀ ty dc sc, (Builtin.copy_ #[275, 275] ty #[.slice (some ⟨w.heap.size, (i + 1) * 3, none⟩) (n + 1 - (i + 1)) dc, .slice (some ⟨g, i * 3, none⟩) (n - i) sc]).run Tryz.prog W = .ok (goInt (Nat.min (n - i) (n + 1 - (i + 1)))) (W.setCells w.heap.size ((i + 1) * 3) (L.drop (i * 3))) := fun W hW ty dc sc =>
  run_copy_k W _ _ ty 278 3 w.heap.size ((i + 1) * 3) (n + 1 - (i + 1)) dc ⟨g, i * 3, none⟩ (n - i) sc (L.drop (i * 3)) Tryz.underlying275 Rx (by rw [List.length_drop, hL, show Nat.min (n - i) (n + 1 - (i + 1)) = n - i from by simp only [Nat.min_def]; split <;> omega]; omega)
   (fun j u hj => by
    have hadd : (⟨g, i * 3, none⟩ : Addr).add j = ⟨g, i * 3 + j, none⟩ := by unfold Addr.add; split <;> simp_all
    rw [List.getElem?_drop] at hj
    rw [hadd, World.cell?_of_block (w := W2) (by rw [hW]), kk2.cell hgl id]
    exact hcell _ u hj)
   (by rw [hW]; exact h2) (by rw [List.length_drop, hL, h2s]; omega) (fun u hu => hone u (List.mem_of_mem_drop hu))
 have hFF : ∀ (W : World), W.heap = W2.heap → Keeps No w W → InsPost 278 3 childCells (.slice (some ⟨g, 0, none⟩) n n) (Dc.insertAt l i x) w (.returned (.slice (some ⟨w.heap.size, 0, none⟩) (n + 1) G)) (W.setCells w.heap.size ((i + 1) * 3) (L.drop (i * 3))) := fun W hW hk => by
  obtain ⟨cur3, h3, h3l⟩ := heap_setCells (L.drop (i * 3)) ((i + 1) * 3) W cur2 (by rw [hW]; exact h2) (by rw [List.length_drop, hL, h2s]; omega)
  refine hfin _ G cur3 h3 ?_ hGn hGm ?_ ?_
  ·have := congrArg List.length h3l
   simp only [Array.length_toList, List.length_append, List.length_take, List.length_drop, hL, h2s] at this
   omega
  ·have e0 : ROW.toList.take (i * 3) = L.take (i * 3) := by
    rw [hROW]
    simp only [Array.toList_append, List.append_assoc]
    exact List.take_left' (by rw [List.length_take]; omega)
   have e1 : cur2.toList.take ((i + 1) * 3) = L.take (i * 3) ++ childCells x := by
    rw [h2l, e0]
    exact List.take_left' (by rw [List.length_append, List.length_take, lenChild]; omega)
   rw [flat_take lenChild, flat_drop lenChild, HL.out, h3l, e1]
   exact List.take_left' (by simp only [List.length_append, List.length_take, List.length_drop, lenChild]; omega)
  ·refine hk.step (keeps_setCells _ _ _ (Keeps.refl (At1 w.heap.size) W)) fun k hk' hlt => ?_
   unfold At1 at hk'; omega
 have F1 := Hx hFF
 clear hW2
 have F2 := Hx hcpB
 have hnc : ¬ ((i : Int) = (n : Int)) := by omega
 have hin : i ≤ n := by omega
 have hb3 : (i : Int) ≤ (n : Int) := by omega
 have hw1 : IntKind.i64.wrap ((i : Int) + 1) = (i : Int) + 1 := by rw [IntKind.wrap_i64]; omega
 have hb1 : (0 : Int) ≤ (i : Int) + 1 := by omega
 have htn : ((i : Int) + 1).toNat = i + 1 := by omega
 have hGi : ¬ (G = i) := by omega
 have hGim : ¬ (G = i + 1) := by omega
 have hci : ¬ (n = i) := by omega
 have hG63 : G ≤ 9223372036854775807 := by unfold maxLen at hGm; omega
 have hgg : (n : Int) < (n : Int) + 1 := by omega
 clear hFF hcpB hfin hold hkk hik hG hROW hRs hW1 h2l h2s hcs htk hone hcell hL hrow
 go_enter Tryz.func176, Tryz.ntmps176
 go_wp2_with (first
  | (at_builtin; refine Lib.wpList_append_run _ rfl _ _ _ _ rfl _ _ rfl rfl _ _ (hrz _) ?_)
  | (refine wpList_copy_run _ rfl _ _ 275 275 rfl _ _ rfl rfl (hcpA _ _) ?_))
 go_region_law (refine step_copy_run rfl _ _ 275 275 rfl (.slice (some ⟨w.heap.size, (i + 1) * 3, none⟩) (n + 1 - (i + 1)) (G - (i + 1))) (.slice (some ⟨g, i * 3, none⟩) (n - i) (n - i)) (by simp [Act.eval, Act.put]) (by simp [Act.eval, Act.put]) (F2.out W2.drew rfl _ _ _) ?_)
 go_wp2
 go_ret
 exact F1.out W2.drew rfl kk2.drew
theorem insChild_room (l : List Dc.Child) (x : Dc.Child) (i vb g cap : Nat) (w : World) (hrow : RowIs 278 3 childCells (.slice (some ⟨g, 0, none⟩) l.length cap) l w) (hi : i < l.length) (hvb : w.heap[vb]? = some (.cells (childCells x).toArray 278 (0, 0))) (hne : vb ≠ g) (hcap : l.length < cap) :
  Calls Tryz.prog 176 #[.slice (some ⟨g, 0, none⟩) l.length cap, .int .i64 i, .slice (some ⟨vb, 0, none⟩) 1 1] w (InsPost 278 3 childCells (.slice (some ⟨g, 0, none⟩) l.length cap) (Dc.insertAt l i x) w) := by
 obtain ⟨cur, hg, hcm, hcs, htk⟩ : ∃ cur, w.heap[g]? = some (.cells cur 278 (0, 0)) ∧ cap ≤ maxLen ∧ cur.size = cap * 3 ∧ cur.toList.take (l.length * 3) = l.flatMap childCells := by
  rcases hrow.form with ⟨h, _⟩ | ⟨g', c', cur, h, h1, _, h3, h4, h5⟩
  ·cases h
  ·simp only [Value.slice.injEq, Option.some.injEq, Addr.mk.injEq, and_true, true_and] at h
   obtain ⟨rfl, rfl⟩ := h
   exact ⟨cur, h1, h3, h4, h5⟩
 have hgl := heap_lt hg
 have hvl := heap_lt hvb
 have hL : (l.flatMap childCells).length = l.length * 3 := flat_length lenChild l
 have hcell : ∀ j u, (l.flatMap childCells)[j]? = some u → w.cell? ⟨g, j, none⟩ = some u := fun j u hj => by
  rw [← htk] at hj
  rw [Cx hg, ← Array.getElem?_toList]
  rw [List.getElem?_take] at hj
  split at hj
  ·exact hj
  ·cases hj
 have hone : ∀ u ∈ l.flatMap childCells, u.oneCell' = true := fun u hu => by
  obtain ⟨y, _, hy⟩ := List.mem_flatMap.1 hu
  exact oneChild y u hy
 have hfin : ∀ (w' : World) (cur' : Array Value), w'.heap[g]? = some (.cells cur' 278 (0, 0)) → cur'.size = cap * 3 → cur'.toList.take ((l.length + 1) * 3) = (l.take i).flatMap childCells ++ childCells x ++ (l.drop i).flatMap childCells → Keeps (At1 g) w w' →
   InsPost 278 3 childCells (.slice (some ⟨g, 0, none⟩) l.length cap) (Dc.insertAt l i x) w (.returned (.slice (some ⟨g, 0, none⟩) (l.length + 1) cap)) w' := by
  intro w' cur' h1 h2 h5 h6
  have hl2 : (Dc.insertAt l i x).length = l.length + 1 := Dc.length_insertAt (by omega)
  exact ⟨_, rfl, ⟨by rw [flat_length lenChild], .inr ⟨g, cap, cur', by rw [hl2], Nat.zero_le _, h1, by omega, hcm, h2, by rw [hl2, flat_insert]; exact h5⟩⟩, h6.mono fun k hk _ => by (unfold At1 at hk; subst hk; rfl), fun k hk => .inl hk⟩
 have hov : ∀ lb cb, (callFunc 228 #[.slice (some ⟨vb, 0, none⟩) 1 1, .slice (some ⟨g, (i + 1) * 3, none⟩) lb cb]).run Tryz.prog w = .ok (.value (.bool false)) w := fun lb cb => by
  rw [run_callFunc_extern Tryz.func228 Rx Rx Rx (e := Extern.SlicesOverlaps.overlaps #[275, 275] #[4]) Rx,
   Lib.run_overlaps_apart w 275 4 278 Tryz.underlying275 3 (fun w => by kernel_rfl) ⟨vb, 0, none⟩ ⟨g, (i + 1) * 3, none⟩ 1 1 lb cb hne 278 278 (childCells x).toArray.size cur.size (by simp [World.shape?, hvb]) (by simp [World.shape?, hg]) (by omega) (Fx hvb _) (Fx hvb _)]
  rfl
 have hc0 : ¬ cap < l.length := by omega
 have hcm' : cap ≤ 9223372036854775807 := by unfold maxLen at hcm; omega
 generalize hN : l.length = n at *
 have HN := Hx hN
 generalize hLL : l.flatMap childCells = L at *
 have HL := Hx hLL
 have hcpA : ∀ (W : World), W.heap = w.heap → ∀ ty dc sc, (Builtin.copy_ #[275, 275] ty #[.slice (some ⟨g, (i + 1) * 3, none⟩) (n + 1 - (i + 1)) dc, .slice (some ⟨g, i * 3, none⟩) (n + 1 - i) sc]).run Tryz.prog W = .ok (goInt (Nat.min (n + 1 - i) (n + 1 - (i + 1)))) (W.setCells g ((i + 1) * 3) (L.drop (i * 3))) := fun W hW ty dc sc =>
  run_copy_k W _ _ ty 278 3 g ((i + 1) * 3) (n + 1 - (i + 1)) dc ⟨g, i * 3, none⟩ (n + 1 - i) sc (L.drop (i * 3)) Tryz.underlying275 Rx (by rw [List.length_drop, hL, show Nat.min (n + 1 - i) (n + 1 - (i + 1)) = n - i from by simp only [Nat.min_def]; split <;> omega]; omega)
   (fun j u hj => by
    have hadd : (⟨g, i * 3, none⟩ : Addr).add j = ⟨g, i * 3 + j, none⟩ := by unfold Addr.add; split <;> simp_all
    rw [List.getElem?_drop] at hj
    rw [hadd, World.cell?_of_block (w := w) (by rw [hW])]
    exact hcell _ u hj)
   (by rw [hW]; exact hg) (by rw [List.length_drop, hL, hcs]; omega) (fun u hu => hone u (List.mem_of_mem_drop hu))
 obtain ⟨W2, hW2⟩ : ∃ W2, W2 = w.drew.setCells g ((i + 1) * 3) (L.drop (i * 3)) := ⟨_, rfl⟩
 obtain ⟨cur2, h2, h2l⟩ := heap_setCells (L.drop (i * 3)) ((i + 1) * 3) w.drew cur hg (by rw [List.length_drop, hL, hcs]; omega)
 rw [← hW2] at h2
 have h2s : cur2.size = cap * 3 := by
  have := congrArg List.length h2l
  simp only [Array.length_toList, List.length_append, List.length_take, List.length_drop, hL, hcs] at this
  omega
 have kk2 : Keeps (At1 g) w W2 := by
  rw [hW2]
  exact keeps_setCells _ _ _ ((Keeps.refl (At1 g) w).drew)
 have hcpA' : ∀ ty dc sc, (Builtin.copy_ #[275, 275] ty #[.slice (some ⟨g, (i + 1) * 3, none⟩) (n + 1 - (i + 1)) dc, .slice (some ⟨g, i * 3, none⟩) (n + 1 - i) sc]).run Tryz.prog w.drew = .ok (goInt (Nat.min (n + 1 - i) (n + 1 - (i + 1)))) W2 := fun ty dc sc => by
  rw [hW2]; exact hcpA w.drew rfl ty dc sc
 have hcpB : ∀ ty dc, (Builtin.copy_ #[275, 275] ty #[.slice (some ⟨g, i * 3, none⟩) (n + 1 - i) dc, .slice (some ⟨vb, 0, none⟩) 1 1]).run Tryz.prog W2 = .ok (goInt (Nat.min 1 (n + 1 - i))) (W2.setCells g (i * 3) (childCells x)) := fun ty dc =>
  run_copy_k W2 _ _ ty 278 3 g (i * 3) (n + 1 - i) dc ⟨vb, 0, none⟩ 1 1 (childCells x) Tryz.underlying275 Rx (by rw [lenChild, show Nat.min 1 (n + 1 - i) = 1 from by simp only [Nat.min_def]; split <;> omega])
   (fun j u hj => by
    have hadd : (⟨vb, 0, none⟩ : Addr).add j = ⟨vb, j, none⟩ := by unfold Addr.add; split <;> simp_all
    rw [hadd, kk2.cell hvl (fun e => hne e)]
    exact (Cx hvb j).trans (by simpa using hj))
   h2 (by rw [lenChild, h2s]; omega) (oneChild x)
 have hFF : InsPost 278 3 childCells (.slice (some ⟨g, 0, none⟩) n cap) (Dc.insertAt l i x) w (.returned (.slice (some ⟨g, 0, none⟩) (n + 1) cap)) (W2.setCells g (i * 3) (childCells x)) := by
  obtain ⟨cur3, h3, h3l⟩ := heap_setCells (childCells x) (i * 3) W2 cur2 h2 (by rw [lenChild, h2s]; omega)
  refine hfin _ cur3 h3 ?_ ?_ (keeps_setCells _ _ _ kk2)
  ·have := congrArg List.length h3l
   simp only [Array.length_toList, List.length_append, List.length_take, List.length_drop, lenChild, h2s] at this
   omega
  ·have hcl : cur.toList.length = cap * 3 := by simpa using hcs
   have e0 : cur2.toList.take (i * 3) = L.take (i * 3) := by
    rw [h2l, List.append_assoc, List.take_append_of_le_length (by rw [List.length_take, hcl]; omega), List.take_take, Nat.min_eq_left (by omega), ← htk, List.take_take, Nat.min_eq_left (by omega)]
   have e1 : cur2.toList.drop ((i + 1) * 3) = L.drop (i * 3) ++ cur.toList.drop ((i + 1) * 3 + (L.drop (i * 3)).length) := by
    rw [h2l, List.append_assoc]
    exact List.drop_left' (by rw [List.length_take, hcl]; omega)
   rw [flat_take lenChild, flat_drop lenChild, HL.out, h3l, e0, lenChild, show i * 3 + 3 = (i + 1) * 3 by omega, e1, ← List.append_assoc]
   exact List.take_left' (by simp only [List.length_append, List.length_take, List.length_drop, lenChild, hL]; omega)
 have F1 := Hx hFF
 have F2 := Hx hcpA'
 have hnc : ¬ ((i : Int) = (n : Int)) := by omega
 have hin : i ≤ n := by omega
 have hb3 : (i : Int) ≤ (n : Int) := by omega
 have hb4 : (i : Int) ≤ (n : Int) + 1 := by omega
 have hw1 : IntKind.i64.wrap ((i : Int) + 1) = (i : Int) + 1 := by rw [IntKind.wrap_i64]; omega
 have hb1 : (0 : Int) ≤ (i : Int) + 1 := by omega
 have htn : ((i : Int) + 1).toNat = i + 1 := by omega
 have hci : ¬ (cap = i) := by omega
 have hci1 : ¬ (cap = i + 1) := by omega
 have hgg : (n : Int) + 1 ≤ (cap : Int) := by omega
 clear hFF hcpA hcpA' hfin hcs htk hone hcell hL hrow hW2 h2l h2s h2
 go_enter Tryz.func176, Tryz.ntmps176
 go_wp2_with (simp only [hov])
 go_region_law (refine step_copy_run rfl _ _ 275 275 rfl (.slice (some ⟨g, (i + 1) * 3, none⟩) (n + 1 - (i + 1)) (cap - (i + 1))) (.slice (some ⟨g, i * 3, none⟩) (n + 1 - i) (cap - i)) (by simp [Act.eval, Act.put]) (by simp [Act.eval, Act.put]) (F2.out _ _ _) ?_)
 go_wp2_with (refine wpList_copy_run _ rfl _ _ 275 275 rfl _ _ rfl rfl (hcpB _ _) ?_)
 go_ret
 exact F1.out
theorem insChild_any (v : Value) (l : List Dc.Child) (x : Dc.Child) (i vb : Nat) (w : World) (hrow : RowIs 278 3 childCells v l w) (hvb : w.heap[vb]? = some (.cells (childCells x).toArray 278 (0, 0))) (hne : v.ownBlock ≠ some vb) (hbig : (l.length + 1) * 32 ≤ 140737488355328) (hi : i ≤ l.length) :
  Calls Tryz.prog 176 #[v, .int .i64 i, .slice (some ⟨vb, 0, none⟩) 1 1] w (InsPost 278 3 childCells v (Dc.insertAt l i x) w) := by
 rcases Nat.eq_or_lt_of_le hi with rfl | hlt
 ·exact insChild_end v l x vb w hrow hvb hne hbig
 ·rcases hrow.form with ⟨rfl, rfl⟩ | ⟨g, cap, cur, rfl, hg, hcap, _⟩
  ·simp at hlt
  ·rcases Nat.eq_or_lt_of_le hcap with e | hc
   ·subst e
    exact insChild_grow l x i vb g _ w hrow hlt hvb hbig rfl
   ·exact insChild_room l x i vb g cap w hrow hlt hvb (fun e => hne (by rw [e]; rfl)) hc
theorem infoChr : (Tryz.prog.info? 26).map (fun i => (i.zero, i.size, i.bytes)) = some (some (.agg #[.int .i64 0, .int .i64 0, .int .i64 0]), 3, 24) := by kernel_rfl
theorem oneChr (x : Dc.Chr) : ∀ u ∈ chrCells x, u.oneCell' = true := fun u hu => List.all_eq_true.1 (show (chrCells x).all (·.oneCell') = true from rfl) u hu
theorem lenChr (x : Dc.Chr) : (chrCells x).length = 3 := rfl
theorem insChr_end (v : Value) (l : List Dc.Chr) (x : Dc.Chr) (vb : Nat) (w : World) (hrow : RowIs 26 3 chrCells v l w) (hvb : w.heap[vb]? = some (.cells (chrCells x).toArray 26 (0, 0))) (hne : v.ownBlock ≠ some vb) (hbig : (l.length + 1) * 24 ≤ 140737488355328) :
  Calls Tryz.prog 303 #[v, .int .i64 l.length, .slice (some ⟨vb, 0, none⟩) 1 1] w (InsPost 26 3 chrCells v (Dc.insertAt l l.length x) w) := by
 obtain ⟨i0, hi, hz0, hz1, hz2⟩ := info_parts infoChr
 have hown : w.ownsRow 0 26 3 v l.length (l.flatMap chrCells) := hrow
 have hlm := hrow.len_le
 have hnews : ∀ j u, (chrCells x)[j]? = some u → w.cell? ((⟨vb, 0, none⟩ : Addr).add j) = some u := fun j u hj => by
  have hadd : (⟨vb, 0, none⟩ : Addr).add j = ⟨vb, j, none⟩ := by unfold Addr.add; split <;> simp_all
  rw [hadd, Cx hvb]; simpa using hj
 have hfin : ∀ v' w', w'.ownsRow 0 26 3 v' (l.length + 1) (l.flatMap chrCells ++ chrCells x) → w.grownBy w' v.ownBlock → (v'.ownBlock = v.ownBlock ∨ v'.ownBlock = some w.heap.size) → InsPost 26 3 chrCells v (Dc.insertAt l l.length x) w (.returned v') w' := by
  intro v' w' h1 h2 h3
  refine ⟨v', rfl, ?_, ⟨h2.os, h2.tape, h2.output, h2.size, fun k hk hn => h2.block k hk fun e => hn e.symm⟩, fun g hg => ?_⟩
  ·unfold RowIs
   rw [Dc.length_insertAt (Nat.le_refl _), flat_insert, List.take_length, List.drop_length]
   simpa using h1
  ·rcases h3 with h3 | h3
   ·exact .inl (h3 ▸ hg)
   ·rw [h3] at hg; cases hg; exact .inr (Nat.le_refl _)
 unfold maxLen at hlm
 rcases hrow.form with ⟨rfl, rfl⟩ | ⟨g, cap, cur, rfl, hg, hcap, hcm, _, _⟩
 ·have F := Hx hfin
  clear hfin hrow
  go_enter Tryz.func303, Tryz.ntmps303
  go_wp2_with (at_builtin; refine wpList_append_own_at _ rfl _ _ 65 rfl 0 26 i0 (.agg #[.int .i64 0, .int .i64 0, .int .i64 0]) 3 24 Tryz.underlying65 hi hz0 hz1 hz2 rfl (by decide) _ _ _ rfl hown ⟨vb, 0, none⟩ 1 1 (chrCells x) rfl rfl hnews (oneChr x) ?c3 ?c4 (Nat.zero_le _) ?_)
  case c3 => simp [maxLen]
  case c4 => simp
  intro v' w' h1 h2 _ h3
  have P := F.out v' w' (by simpa using h1) h2 h3
  obtain ⟨v2, e2, r2, k2, b2⟩ := P
  obtain rfl : v2 = v' := by injection e2 with e2; exact e2.symm
  have R2 := Hx r2
  obtain ⟨g2, c2, rfl, _⟩ := r2.at (by rw [Dc.length_insertAt (Nat.le_refl _)]; omega)
  clear h1 h2 h3 r2 e2
  go_wp2
  go_ret
  exact ⟨_, rfl, R2.out, k2, b2⟩
 ·have F := Hx hfin
  have hc0 : ¬ cap < l.length := by omega
  have hcm' : cap ≤ 9223372036854775807 := by unfold maxLen at hcm; omega
  generalize hN : l.length = n at *
  have HN := Hx hN
  clear hfin hrow hN
  by_cases hcn : cap = n
  all_goals
   go_enter Tryz.func303, Tryz.ntmps303
   go_wp2_with (at_builtin; refine wpList_append_own_at _ rfl _ _ 65 rfl 0 26 i0 (.agg #[.int .i64 0, .int .i64 0, .int .i64 0]) 3 24 Tryz.underlying65 hi hz0 hz1 hz2 rfl (by decide) _ _ _ rfl (by first | exact hown | exact hcn ▸ hown) ⟨vb, 0, none⟩ 1 1 (chrCells x) rfl rfl hnews (oneChr x) (by unfold maxLen; omega) (by omega) (Nat.zero_le _) ?_)
  all_goals
   intro v' w' h1 h2 _ h3
   have P := F.out v' w' (by first | exact h1 | (rw [← hcn]; exact h1)) (by first | exact h2 | (rw [← hcn]; exact h2)) (by first | exact h3 | (rw [← hcn]; exact h3))
   obtain ⟨v2, e2, r2, k2, b2⟩ := P
   obtain rfl : v2 = v' := by injection e2 with e2; exact e2.symm
   have R2 := Hx r2
   obtain ⟨g2, c2, rfl, _⟩ := r2.at (by rw [Dc.length_insertAt (by rw [HN.out]; exact Nat.le_refl _)]; omega)
   clear h1 h2 h3 r2 e2
   have Z := Hx (show InsPost 26 3 chrCells _ (Dc.insertAt l n x) w _ w' from ⟨_, rfl, R2.out, k2, b2⟩)
   go_wp2
   go_ret
   exact Z.out
theorem insChr_grow (l : List Dc.Chr) (x : Dc.Chr) (i vb g cap : Nat) (w : World) (hrow : RowIs 26 3 chrCells (.slice (some ⟨g, 0, none⟩) l.length cap) l w) (hi : i < l.length) (hvb : w.heap[vb]? = some (.cells (chrCells x).toArray 26 (0, 0))) (hbig : (l.length + 1) * 24 ≤ 140737488355328) (hcap : cap = l.length) :
  Calls Tryz.prog 303 #[.slice (some ⟨g, 0, none⟩) l.length cap, .int .i64 i, .slice (some ⟨vb, 0, none⟩) 1 1] w (InsPost 26 3 chrCells (.slice (some ⟨g, 0, none⟩) l.length cap) (Dc.insertAt l i x) w) := by
 subst hcap
 obtain ⟨i0, hii, hz0, hz1, hz2⟩ := info_parts infoChr
 obtain ⟨cur, hg, hcs, htk⟩ : ∃ cur, w.heap[g]? = some (.cells cur 26 (0, 0)) ∧ cur.size = l.length * 3 ∧ cur.toList.take (l.length * 3) = l.flatMap chrCells := by
  rcases hrow.form with ⟨h, _⟩ | ⟨g', c', cur, h, h1, _, _, h4, h5⟩
  ·cases h
  ·simp only [Value.slice.injEq, Option.some.injEq, Addr.mk.injEq, and_true, true_and] at h
   obtain ⟨rfl, rfl⟩ := h
   exact ⟨cur, h1, h4, h5⟩
 have hgl := heap_lt hg
 have hvl := heap_lt hvb
 have hL : (l.flatMap chrCells).length = l.length * 3 := flat_length lenChr l
 have hcell : ∀ j u, (l.flatMap chrCells)[j]? = some u → w.cell? ⟨g, j, none⟩ = some u := fun j u hj => by
  rw [← htk] at hj
  rw [Cx hg, ← Array.getElem?_toList]
  rw [List.getElem?_take] at hj
  split at hj
  ·exact hj
  ·cases hj
 have hone : ∀ u ∈ l.flatMap chrCells, u.oneCell' = true := fun u hu => by
  obtain ⟨y, _, hy⟩ := List.mem_flatMap.1 hu
  exact oneChr y u hy
 have hfin : ∀ (w' : World) (c' : Nat) (cur' : Array Value), w'.heap[w.heap.size]? = some (.cells cur' 26 (0, 0)) → cur'.size = c' * 3 → l.length + 1 ≤ c' → c' ≤ maxLen → cur'.toList.take ((l.length + 1) * 3) = (l.take i).flatMap chrCells ++ chrCells x ++ (l.drop i).flatMap chrCells → Keeps No w w' →
   InsPost 26 3 chrCells (.slice (some ⟨g, 0, none⟩) l.length l.length) (Dc.insertAt l i x) w (.returned (.slice (some ⟨w.heap.size, 0, none⟩) (l.length + 1) c')) w' := by
  intro w' c' cur' h1 h2 h3 h4 h5 h6
  have hl2 : (Dc.insertAt l i x).length = l.length + 1 := Dc.length_insertAt (by omega)
  refine ⟨_, rfl, ⟨by rw [flat_length lenChr], .inr ⟨w.heap.size, c', cur', by rw [hl2], Nat.zero_le _, h1, by omega, h4, h2, by rw [hl2, flat_insert]; exact h5⟩⟩, h6.any, fun k hk => ?_⟩
  have hk' : some w.heap.size = some k := hk
  injection hk' with hk'
  exact .inr (by omega)
 generalize hN : l.length = n at *
 have HN := Hx hN
 generalize hLL : l.flatMap chrCells = L at *
 have HL := Hx hLL
 have hold : (Builtin.firstCells i0.size i (.slice (some ⟨g, 0, none⟩) i n)).run Tryz.prog w.drew = .ok (L.take (i * 3)).toArray w.drew := by
  rw [hz1]
  exact run_firstCells_some w.drew 3 i ⟨g, 0, none⟩ i n (L.take (i * 3)) (by rw [List.length_take]; omega) (fun j v hj => by
   have hadd : (⟨g, 0, none⟩ : Addr).add j = ⟨g, j, none⟩ := by unfold Addr.add; split <;> simp_all
   rw [hadd]
   rw [List.getElem?_take] at hj
   split at hj
   ·exact hcell j v hj
   ·cases hj)
 have hkk : (n : Int) + 1 - (i : Int) = ((n + 1 - i : Nat) : Int) := by omega
 have hik : i + (n + 1 - i) = n + 1 := by omega
 obtain ⟨G, hG⟩ : ∃ G, G = grownCap w (n + 1) n 26 := ⟨_, rfl⟩
 have hGn : n + 1 ≤ G := by rw [hG]; exact grownCap_ge w _ _ _
 have hGm : G ≤ maxLen := by rw [hG]; exact grownCap_le_maxLen w (n + 1) n 26 (by unfold maxLen; omega)
 obtain ⟨ROW, hROW⟩ : ∃ ROW : Array Value, ROW = (L.take (i * 3)).toArray ++ Builtin.zeroCells (.agg #[.int .i64 0, .int .i64 0, .int .i64 0] : Value).cells (n + 1 - i) ++ Builtin.zeroCells (.agg #[.int .i64 0, .int .i64 0, .int .i64 0] : Value).cells (G - (n + 1)) := ⟨_, rfl⟩
 have hRs : ROW.size = G * 3 := by
  rw [hROW]
  simp only [Array.size_append, List.size_toArray, List.length_take, size_zeroCells, hL]
  simp only [Value.cells]
  simp
  omega
 have hrz : ∀ ty, (Builtin.append_ #[65, 3] ty #[.slice (some ⟨g, 0, none⟩) i n, .int .i64 ((n : Int) + 1 - (i : Int))]).run Tryz.prog w = .ok (.slice (some ⟨w.heap.size, 0, none⟩) (n + 1) G) ((w.alloc (.cells ROW 26)).drew) := fun ty => by
  have h := Lib.run_append_grow_zeros w 65 3 ty 26 i0 _ .i64 .i64 Tryz.underlying65 Tryz.underlying3 hii hz0 (some ⟨g, 0, none⟩) i n (L.take (i * 3)) hold (n + 1 - i) (by omega) (by omega) (by omega) (by omega) (by rw [hz2]; omega) (by rw [hz2, hik]; exact growslice_fits (by omega) hbig)
  rw [hik] at h
  rw [hkk, hROW, hG]
  exact h
 have hW1 : ((w.alloc (.cells ROW 26)).drew).heap[w.heap.size]? = some (.cells ROW 26 (0, 0)) := Nx w.drew _
 have hcpA : ∀ ty dc, (Builtin.copy_ #[65, 65] ty #[.slice (some ⟨w.heap.size, i * 3, none⟩) (n + 1 - i) dc, .slice (some ⟨vb, 0, none⟩) 1 1]).run Tryz.prog ((w.alloc (.cells ROW 26)).drew) = .ok (goInt (Nat.min 1 (n + 1 - i))) (((w.alloc (.cells ROW 26)).drew).setCells w.heap.size (i * 3) (chrCells x)) := fun ty dc =>
  run_copy_k _ _ _ ty 26 3 w.heap.size (i * 3) (n + 1 - i) dc ⟨vb, 0, none⟩ 1 1 (chrCells x) Tryz.underlying65 Rx (by rw [lenChr, show Nat.min 1 (n + 1 - i) = 1 from by simp only [Nat.min_def]; split <;> omega])
   (fun j u hj => by
    have hadd : (⟨vb, 0, none⟩ : Addr).add j = ⟨vb, j, none⟩ := by unfold Addr.add; split <;> simp_all
    rw [hadd]; show (w.alloc (.cells ROW 26)).cell? ⟨vb, j, none⟩ = some u; rw [World.cell?_alloc_past (w := w) _ vb j hvl]
    exact (Cx hvb j).trans (by simpa using hj))
   hW1 (by rw [lenChr, hRs]; omega) (oneChr x)
 obtain ⟨cur2, h2, h2l⟩ := heap_setCells (chrCells x) (i * 3) _ ROW hW1 (by rw [lenChr, hRs]; omega)
 have h2s : cur2.size = G * 3 := by
  have := congrArg List.length h2l
  simp only [Array.length_toList, List.length_append, List.length_take, List.length_drop, lenChr, hRs] at this
  omega
 obtain ⟨W2, hW2⟩ : ∃ W2, W2 = ((w.alloc (.cells ROW 26)).drew).setCells w.heap.size (i * 3) (chrCells x) := ⟨_, rfl⟩
 have kk2 : Keeps No w W2 := by
  rw [hW2]
  refine (((Keeps.refl No w).alloc (.cells ROW 26)).drew).step (keeps_setCells _ _ _ (Keeps.refl (At1 w.heap.size) _)) fun k hk hlt => ?_
  unfold At1 at hk; omega
 rw [← hW2] at hcpA h2
 have hcpB : ∀ (W : World), W.heap = W2.heap → ∀ ty dc sc, (Builtin.copy_ #[65, 65] ty #[.slice (some ⟨w.heap.size, (i + 1) * 3, none⟩) (n + 1 - (i + 1)) dc, .slice (some ⟨g, i * 3, none⟩) (n - i) sc]).run Tryz.prog W = .ok (goInt (Nat.min (n - i) (n + 1 - (i + 1)))) (W.setCells w.heap.size ((i + 1) * 3) (L.drop (i * 3))) := fun W hW ty dc sc =>
  run_copy_k W _ _ ty 26 3 w.heap.size ((i + 1) * 3) (n + 1 - (i + 1)) dc ⟨g, i * 3, none⟩ (n - i) sc (L.drop (i * 3)) Tryz.underlying65 Rx (by rw [List.length_drop, hL, show Nat.min (n - i) (n + 1 - (i + 1)) = n - i from by simp only [Nat.min_def]; split <;> omega]; omega)
   (fun j u hj => by
    have hadd : (⟨g, i * 3, none⟩ : Addr).add j = ⟨g, i * 3 + j, none⟩ := by unfold Addr.add; split <;> simp_all
    rw [List.getElem?_drop] at hj
    rw [hadd, World.cell?_of_block (w := W2) (by rw [hW]), kk2.cell hgl id]
    exact hcell _ u hj)
   (by rw [hW]; exact h2) (by rw [List.length_drop, hL, h2s]; omega) (fun u hu => hone u (List.mem_of_mem_drop hu))
 have hFF : ∀ (W : World), W.heap = W2.heap → Keeps No w W → InsPost 26 3 chrCells (.slice (some ⟨g, 0, none⟩) n n) (Dc.insertAt l i x) w (.returned (.slice (some ⟨w.heap.size, 0, none⟩) (n + 1) G)) (W.setCells w.heap.size ((i + 1) * 3) (L.drop (i * 3))) := fun W hW hk => by
  obtain ⟨cur3, h3, h3l⟩ := heap_setCells (L.drop (i * 3)) ((i + 1) * 3) W cur2 (by rw [hW]; exact h2) (by rw [List.length_drop, hL, h2s]; omega)
  refine hfin _ G cur3 h3 ?_ hGn hGm ?_ ?_
  ·have := congrArg List.length h3l
   simp only [Array.length_toList, List.length_append, List.length_take, List.length_drop, hL, h2s] at this
   omega
  ·have e0 : ROW.toList.take (i * 3) = L.take (i * 3) := by
    rw [hROW]
    simp only [Array.toList_append, List.append_assoc]
    exact List.take_left' (by rw [List.length_take]; omega)
   have e1 : cur2.toList.take ((i + 1) * 3) = L.take (i * 3) ++ chrCells x := by
    rw [h2l, e0]
    exact List.take_left' (by rw [List.length_append, List.length_take, lenChr]; omega)
   rw [flat_take lenChr, flat_drop lenChr, HL.out, h3l, e1]
   exact List.take_left' (by simp only [List.length_append, List.length_take, List.length_drop, lenChr]; omega)
  ·refine hk.step (keeps_setCells _ _ _ (Keeps.refl (At1 w.heap.size) W)) fun k hk' hlt => ?_
   unfold At1 at hk'; omega
 have F1 := Hx hFF
 clear hW2
 have F2 := Hx hcpB
 have hnc : ¬ ((i : Int) = (n : Int)) := by omega
 have hin : i ≤ n := by omega
 have hb3 : (i : Int) ≤ (n : Int) := by omega
 have hw1 : IntKind.i64.wrap ((i : Int) + 1) = (i : Int) + 1 := by rw [IntKind.wrap_i64]; omega
 have hb1 : (0 : Int) ≤ (i : Int) + 1 := by omega
 have htn : ((i : Int) + 1).toNat = i + 1 := by omega
 have hGi : ¬ (G = i) := by omega
 have hGim : ¬ (G = i + 1) := by omega
 have hci : ¬ (n = i) := by omega
 have hG63 : G ≤ 9223372036854775807 := by unfold maxLen at hGm; omega
 have hgg : (n : Int) < (n : Int) + 1 := by omega
 clear hFF hcpB hfin hold hkk hik hG hROW hRs hW1 h2l h2s hcs htk hone hcell hL hrow
 go_enter Tryz.func303, Tryz.ntmps303
 go_wp2_with (first
  | (at_builtin; refine Lib.wpList_append_run _ rfl _ _ _ _ rfl _ _ rfl rfl _ _ (hrz _) ?_)
  | (refine wpList_copy_run _ rfl _ _ 65 65 rfl _ _ rfl rfl (hcpA _ _) ?_))
 go_region_law (refine step_copy_run rfl _ _ 65 65 rfl (.slice (some ⟨w.heap.size, (i + 1) * 3, none⟩) (n + 1 - (i + 1)) (G - (i + 1))) (.slice (some ⟨g, i * 3, none⟩) (n - i) (n - i)) (by simp [Act.eval, Act.put]) (by simp [Act.eval, Act.put]) (F2.out W2.drew rfl _ _ _) ?_)
 go_wp2
 go_ret
 exact F1.out W2.drew rfl kk2.drew
theorem insChr_room (l : List Dc.Chr) (x : Dc.Chr) (i vb g cap : Nat) (w : World) (hrow : RowIs 26 3 chrCells (.slice (some ⟨g, 0, none⟩) l.length cap) l w) (hi : i < l.length) (hvb : w.heap[vb]? = some (.cells (chrCells x).toArray 26 (0, 0))) (hne : vb ≠ g) (hcap : l.length < cap) :
  Calls Tryz.prog 303 #[.slice (some ⟨g, 0, none⟩) l.length cap, .int .i64 i, .slice (some ⟨vb, 0, none⟩) 1 1] w (InsPost 26 3 chrCells (.slice (some ⟨g, 0, none⟩) l.length cap) (Dc.insertAt l i x) w) := by
 obtain ⟨cur, hg, hcm, hcs, htk⟩ : ∃ cur, w.heap[g]? = some (.cells cur 26 (0, 0)) ∧ cap ≤ maxLen ∧ cur.size = cap * 3 ∧ cur.toList.take (l.length * 3) = l.flatMap chrCells := by
  rcases hrow.form with ⟨h, _⟩ | ⟨g', c', cur, h, h1, _, h3, h4, h5⟩
  ·cases h
  ·simp only [Value.slice.injEq, Option.some.injEq, Addr.mk.injEq, and_true, true_and] at h
   obtain ⟨rfl, rfl⟩ := h
   exact ⟨cur, h1, h3, h4, h5⟩
 have hgl := heap_lt hg
 have hvl := heap_lt hvb
 have hL : (l.flatMap chrCells).length = l.length * 3 := flat_length lenChr l
 have hcell : ∀ j u, (l.flatMap chrCells)[j]? = some u → w.cell? ⟨g, j, none⟩ = some u := fun j u hj => by
  rw [← htk] at hj
  rw [Cx hg, ← Array.getElem?_toList]
  rw [List.getElem?_take] at hj
  split at hj
  ·exact hj
  ·cases hj
 have hone : ∀ u ∈ l.flatMap chrCells, u.oneCell' = true := fun u hu => by
  obtain ⟨y, _, hy⟩ := List.mem_flatMap.1 hu
  exact oneChr y u hy
 have hfin : ∀ (w' : World) (cur' : Array Value), w'.heap[g]? = some (.cells cur' 26 (0, 0)) → cur'.size = cap * 3 → cur'.toList.take ((l.length + 1) * 3) = (l.take i).flatMap chrCells ++ chrCells x ++ (l.drop i).flatMap chrCells → Keeps (At1 g) w w' →
   InsPost 26 3 chrCells (.slice (some ⟨g, 0, none⟩) l.length cap) (Dc.insertAt l i x) w (.returned (.slice (some ⟨g, 0, none⟩) (l.length + 1) cap)) w' := by
  intro w' cur' h1 h2 h5 h6
  have hl2 : (Dc.insertAt l i x).length = l.length + 1 := Dc.length_insertAt (by omega)
  exact ⟨_, rfl, ⟨by rw [flat_length lenChr], .inr ⟨g, cap, cur', by rw [hl2], Nat.zero_le _, h1, by omega, hcm, h2, by rw [hl2, flat_insert]; exact h5⟩⟩, h6.mono fun k hk _ => by (unfold At1 at hk; subst hk; rfl), fun k hk => .inl hk⟩
 have hov : ∀ lb cb, (callFunc 338 #[.slice (some ⟨vb, 0, none⟩) 1 1, .slice (some ⟨g, (i + 1) * 3, none⟩) lb cb]).run Tryz.prog w = .ok (.value (.bool false)) w := fun lb cb => by
  rw [run_callFunc_extern Tryz.func338 Rx Rx Rx (e := Extern.SlicesOverlaps.overlaps #[65, 65] #[4]) Rx,
   Lib.run_overlaps_apart w 65 4 26 Tryz.underlying65 3 (fun w => by kernel_rfl) ⟨vb, 0, none⟩ ⟨g, (i + 1) * 3, none⟩ 1 1 lb cb hne 26 26 (chrCells x).toArray.size cur.size (by simp [World.shape?, hvb]) (by simp [World.shape?, hg]) (by omega) (Fx hvb _) (Fx hvb _)]
  rfl
 have hc0 : ¬ cap < l.length := by omega
 have hcm' : cap ≤ 9223372036854775807 := by unfold maxLen at hcm; omega
 generalize hN : l.length = n at *
 have HN := Hx hN
 generalize hLL : l.flatMap chrCells = L at *
 have HL := Hx hLL
 have hcpA : ∀ (W : World), W.heap = w.heap → ∀ ty dc sc, (Builtin.copy_ #[65, 65] ty #[.slice (some ⟨g, (i + 1) * 3, none⟩) (n + 1 - (i + 1)) dc, .slice (some ⟨g, i * 3, none⟩) (n + 1 - i) sc]).run Tryz.prog W = .ok (goInt (Nat.min (n + 1 - i) (n + 1 - (i + 1)))) (W.setCells g ((i + 1) * 3) (L.drop (i * 3))) := fun W hW ty dc sc =>
  run_copy_k W _ _ ty 26 3 g ((i + 1) * 3) (n + 1 - (i + 1)) dc ⟨g, i * 3, none⟩ (n + 1 - i) sc (L.drop (i * 3)) Tryz.underlying65 Rx (by rw [List.length_drop, hL, show Nat.min (n + 1 - i) (n + 1 - (i + 1)) = n - i from by simp only [Nat.min_def]; split <;> omega]; omega)
   (fun j u hj => by
    have hadd : (⟨g, i * 3, none⟩ : Addr).add j = ⟨g, i * 3 + j, none⟩ := by unfold Addr.add; split <;> simp_all
    rw [List.getElem?_drop] at hj
    rw [hadd, World.cell?_of_block (w := w) (by rw [hW])]
    exact hcell _ u hj)
   (by rw [hW]; exact hg) (by rw [List.length_drop, hL, hcs]; omega) (fun u hu => hone u (List.mem_of_mem_drop hu))
 obtain ⟨W2, hW2⟩ : ∃ W2, W2 = w.drew.setCells g ((i + 1) * 3) (L.drop (i * 3)) := ⟨_, rfl⟩
 obtain ⟨cur2, h2, h2l⟩ := heap_setCells (L.drop (i * 3)) ((i + 1) * 3) w.drew cur hg (by rw [List.length_drop, hL, hcs]; omega)
 rw [← hW2] at h2
 have h2s : cur2.size = cap * 3 := by
  have := congrArg List.length h2l
  simp only [Array.length_toList, List.length_append, List.length_take, List.length_drop, hL, hcs] at this
  omega
 have kk2 : Keeps (At1 g) w W2 := by
  rw [hW2]
  exact keeps_setCells _ _ _ ((Keeps.refl (At1 g) w).drew)
 have hcpA' : ∀ ty dc sc, (Builtin.copy_ #[65, 65] ty #[.slice (some ⟨g, (i + 1) * 3, none⟩) (n + 1 - (i + 1)) dc, .slice (some ⟨g, i * 3, none⟩) (n + 1 - i) sc]).run Tryz.prog w.drew = .ok (goInt (Nat.min (n + 1 - i) (n + 1 - (i + 1)))) W2 := fun ty dc sc => by
  rw [hW2]; exact hcpA w.drew rfl ty dc sc
 have hcpB : ∀ ty dc, (Builtin.copy_ #[65, 65] ty #[.slice (some ⟨g, i * 3, none⟩) (n + 1 - i) dc, .slice (some ⟨vb, 0, none⟩) 1 1]).run Tryz.prog W2 = .ok (goInt (Nat.min 1 (n + 1 - i))) (W2.setCells g (i * 3) (chrCells x)) := fun ty dc =>
  run_copy_k W2 _ _ ty 26 3 g (i * 3) (n + 1 - i) dc ⟨vb, 0, none⟩ 1 1 (chrCells x) Tryz.underlying65 Rx (by rw [lenChr, show Nat.min 1 (n + 1 - i) = 1 from by simp only [Nat.min_def]; split <;> omega])
   (fun j u hj => by
    have hadd : (⟨vb, 0, none⟩ : Addr).add j = ⟨vb, j, none⟩ := by unfold Addr.add; split <;> simp_all
    rw [hadd, kk2.cell hvl (fun e => hne e)]
    exact (Cx hvb j).trans (by simpa using hj))
   h2 (by rw [lenChr, h2s]; omega) (oneChr x)
 have hFF : InsPost 26 3 chrCells (.slice (some ⟨g, 0, none⟩) n cap) (Dc.insertAt l i x) w (.returned (.slice (some ⟨g, 0, none⟩) (n + 1) cap)) (W2.setCells g (i * 3) (chrCells x)) := by
  obtain ⟨cur3, h3, h3l⟩ := heap_setCells (chrCells x) (i * 3) W2 cur2 h2 (by rw [lenChr, h2s]; omega)
  refine hfin _ cur3 h3 ?_ ?_ (keeps_setCells _ _ _ kk2)
  ·have := congrArg List.length h3l
   simp only [Array.length_toList, List.length_append, List.length_take, List.length_drop, lenChr, h2s] at this
   omega
  ·have hcl : cur.toList.length = cap * 3 := by simpa using hcs
   have e0 : cur2.toList.take (i * 3) = L.take (i * 3) := by
    rw [h2l, List.append_assoc, List.take_append_of_le_length (by rw [List.length_take, hcl]; omega), List.take_take, Nat.min_eq_left (by omega), ← htk, List.take_take, Nat.min_eq_left (by omega)]
   have e1 : cur2.toList.drop ((i + 1) * 3) = L.drop (i * 3) ++ cur.toList.drop ((i + 1) * 3 + (L.drop (i * 3)).length) := by
    rw [h2l, List.append_assoc]
    exact List.drop_left' (by rw [List.length_take, hcl]; omega)
   rw [flat_take lenChr, flat_drop lenChr, HL.out, h3l, e0, lenChr, show i * 3 + 3 = (i + 1) * 3 by omega, e1, ← List.append_assoc]
   exact List.take_left' (by simp only [List.length_append, List.length_take, List.length_drop, lenChr, hL]; omega)
 have F1 := Hx hFF
 have F2 := Hx hcpA'
 have hnc : ¬ ((i : Int) = (n : Int)) := by omega
 have hin : i ≤ n := by omega
 have hb3 : (i : Int) ≤ (n : Int) := by omega
 have hb4 : (i : Int) ≤ (n : Int) + 1 := by omega
 have hw1 : IntKind.i64.wrap ((i : Int) + 1) = (i : Int) + 1 := by rw [IntKind.wrap_i64]; omega
 have hb1 : (0 : Int) ≤ (i : Int) + 1 := by omega
 have htn : ((i : Int) + 1).toNat = i + 1 := by omega
 have hci : ¬ (cap = i) := by omega
 have hci1 : ¬ (cap = i + 1) := by omega
 have hgg : (n : Int) + 1 ≤ (cap : Int) := by omega
 clear hFF hcpA hcpA' hfin hcs htk hone hcell hL hrow hW2 h2l h2s h2
 go_enter Tryz.func303, Tryz.ntmps303
 go_wp2_with (simp only [hov])
 go_region_law (refine step_copy_run rfl _ _ 65 65 rfl (.slice (some ⟨g, (i + 1) * 3, none⟩) (n + 1 - (i + 1)) (cap - (i + 1))) (.slice (some ⟨g, i * 3, none⟩) (n + 1 - i) (cap - i)) (by simp [Act.eval, Act.put]) (by simp [Act.eval, Act.put]) (F2.out _ _ _) ?_)
 go_wp2_with (refine wpList_copy_run _ rfl _ _ 65 65 rfl _ _ rfl rfl (hcpB _ _) ?_)
 go_ret
 exact F1.out
theorem insChr_any (v : Value) (l : List Dc.Chr) (x : Dc.Chr) (i vb : Nat) (w : World) (hrow : RowIs 26 3 chrCells v l w) (hvb : w.heap[vb]? = some (.cells (chrCells x).toArray 26 (0, 0))) (hne : v.ownBlock ≠ some vb) (hbig : (l.length + 1) * 24 ≤ 140737488355328) (hi : i ≤ l.length) :
  Calls Tryz.prog 303 #[v, .int .i64 i, .slice (some ⟨vb, 0, none⟩) 1 1] w (InsPost 26 3 chrCells v (Dc.insertAt l i x) w) := by
 rcases Nat.eq_or_lt_of_le hi with rfl | hlt
 ·exact insChr_end v l x vb w hrow hvb hne hbig
 ·rcases hrow.form with ⟨rfl, rfl⟩ | ⟨g, cap, cur, rfl, hg, hcap, _⟩
  ·simp at hlt
  ·rcases Nat.eq_or_lt_of_le hcap with e | hc
   ·subst e
    exact insChr_grow l x i vb g _ w hrow hlt hvb hbig rfl
   ·exact insChr_room l x i vb g cap w hrow hlt hvb (fun e => hne (by rw [e]; rfl)) hc
theorem infoStep : (Tryz.prog.info? 265).map (fun i => (i.zero, i.size, i.bytes)) = some (some (.agg #[.int .i64 0, .int .i64 0, .int .i64 0, .int .i64 0, .int .i64 0, .int .i64 0, .int .i64 0, .int .i64 0, .string ⟨#[]⟩, .bool false, .int .i64 0, .int .i64 0, .string ⟨#[]⟩, .bool false]), 14, 128) := by kernel_rfl
theorem oneStep (x : Dc.Step) : ∀ u ∈ stepCells x, u.oneCell' = true := fun u hu => List.all_eq_true.1 (show (stepCells x).all (·.oneCell') = true from rfl) u hu
theorem lenStep (x : Dc.Step) : (stepCells x).length = 14 := rfl
theorem insStep_end (v : Value) (l : List Dc.Step) (x : Dc.Step) (vb : Nat) (w : World) (hrow : RowIs 265 14 stepCells v l w) (hvb : w.heap[vb]? = some (.cells (stepCells x).toArray 265 (0, 0))) (hne : v.ownBlock ≠ some vb) (hbig : (l.length + 1) * 128 ≤ 140737488355328) :
  Calls Tryz.prog 171 #[v, .int .i64 l.length, .slice (some ⟨vb, 0, none⟩) 1 1] w (InsPost 265 14 stepCells v (Dc.insertAt l l.length x) w) := by
 obtain ⟨i0, hi, hz0, hz1, hz2⟩ := info_parts infoStep
 have hown : w.ownsRow 0 265 14 v l.length (l.flatMap stepCells) := hrow
 have hlm := hrow.len_le
 have hnews : ∀ j u, (stepCells x)[j]? = some u → w.cell? ((⟨vb, 0, none⟩ : Addr).add j) = some u := fun j u hj => by
  have hadd : (⟨vb, 0, none⟩ : Addr).add j = ⟨vb, j, none⟩ := by unfold Addr.add; split <;> simp_all
  rw [hadd, Cx hvb]; simpa using hj
 have hfin : ∀ v' w', w'.ownsRow 0 265 14 v' (l.length + 1) (l.flatMap stepCells ++ stepCells x) → w.grownBy w' v.ownBlock → (v'.ownBlock = v.ownBlock ∨ v'.ownBlock = some w.heap.size) → InsPost 265 14 stepCells v (Dc.insertAt l l.length x) w (.returned v') w' := by
  intro v' w' h1 h2 h3
  refine ⟨v', rfl, ?_, ⟨h2.os, h2.tape, h2.output, h2.size, fun k hk hn => h2.block k hk fun e => hn e.symm⟩, fun g hg => ?_⟩
  ·unfold RowIs
   rw [Dc.length_insertAt (Nat.le_refl _), flat_insert, List.take_length, List.drop_length]
   simpa using h1
  ·rcases h3 with h3 | h3
   ·exact .inl (h3 ▸ hg)
   ·rw [h3] at hg; cases hg; exact .inr (Nat.le_refl _)
 unfold maxLen at hlm
 rcases hrow.form with ⟨rfl, rfl⟩ | ⟨g, cap, cur, rfl, hg, hcap, hcm, _, _⟩
 ·have F := Hx hfin
  clear hfin hrow
  go_enter Tryz.func171, Tryz.ntmps171
  go_wp2_with (at_builtin; refine wpList_append_own_at _ rfl _ _ 192 rfl 0 265 i0 (.agg #[.int .i64 0, .int .i64 0, .int .i64 0, .int .i64 0, .int .i64 0, .int .i64 0, .int .i64 0, .int .i64 0, .string ⟨#[]⟩, .bool false, .int .i64 0, .int .i64 0, .string ⟨#[]⟩, .bool false]) 14 128 Tryz.underlying192 hi hz0 hz1 hz2 rfl (by decide) _ _ _ rfl hown ⟨vb, 0, none⟩ 1 1 (stepCells x) rfl rfl hnews (oneStep x) ?c3 ?c4 (Nat.zero_le _) ?_)
  case c3 => simp [maxLen]
  case c4 => simp
  intro v' w' h1 h2 _ h3
  have P := F.out v' w' (by simpa using h1) h2 h3
  obtain ⟨v2, e2, r2, k2, b2⟩ := P
  obtain rfl : v2 = v' := by injection e2 with e2; exact e2.symm
  have R2 := Hx r2
  obtain ⟨g2, c2, rfl, _⟩ := r2.at (by rw [Dc.length_insertAt (Nat.le_refl _)]; omega)
  clear h1 h2 h3 r2 e2
  go_wp2
  go_ret
  exact ⟨_, rfl, R2.out, k2, b2⟩
 ·have F := Hx hfin
  have hc0 : ¬ cap < l.length := by omega
  have hcm' : cap ≤ 9223372036854775807 := by unfold maxLen at hcm; omega
  generalize hN : l.length = n at *
  have HN := Hx hN
  clear hfin hrow hN
  by_cases hcn : cap = n
  all_goals
   go_enter Tryz.func171, Tryz.ntmps171
   go_wp2_with (at_builtin; refine wpList_append_own_at _ rfl _ _ 192 rfl 0 265 i0 (.agg #[.int .i64 0, .int .i64 0, .int .i64 0, .int .i64 0, .int .i64 0, .int .i64 0, .int .i64 0, .int .i64 0, .string ⟨#[]⟩, .bool false, .int .i64 0, .int .i64 0, .string ⟨#[]⟩, .bool false]) 14 128 Tryz.underlying192 hi hz0 hz1 hz2 rfl (by decide) _ _ _ rfl (by first | exact hown | exact hcn ▸ hown) ⟨vb, 0, none⟩ 1 1 (stepCells x) rfl rfl hnews (oneStep x) (by unfold maxLen; omega) (by omega) (Nat.zero_le _) ?_)
  all_goals
   intro v' w' h1 h2 _ h3
   have P := F.out v' w' (by first | exact h1 | (rw [← hcn]; exact h1)) (by first | exact h2 | (rw [← hcn]; exact h2)) (by first | exact h3 | (rw [← hcn]; exact h3))
   obtain ⟨v2, e2, r2, k2, b2⟩ := P
   obtain rfl : v2 = v' := by injection e2 with e2; exact e2.symm
   have R2 := Hx r2
   obtain ⟨g2, c2, rfl, _⟩ := r2.at (by rw [Dc.length_insertAt (by rw [HN.out]; exact Nat.le_refl _)]; omega)
   clear h1 h2 h3 r2 e2
   have Z := Hx (show InsPost 265 14 stepCells _ (Dc.insertAt l n x) w _ w' from ⟨_, rfl, R2.out, k2, b2⟩)
   go_wp2
   go_ret
   exact Z.out
theorem insStep_grow (l : List Dc.Step) (x : Dc.Step) (i vb g cap : Nat) (w : World) (hrow : RowIs 265 14 stepCells (.slice (some ⟨g, 0, none⟩) l.length cap) l w) (hi : i < l.length) (hvb : w.heap[vb]? = some (.cells (stepCells x).toArray 265 (0, 0))) (hbig : (l.length + 1) * 128 ≤ 140737488355328) (hcap : cap = l.length) :
  Calls Tryz.prog 171 #[.slice (some ⟨g, 0, none⟩) l.length cap, .int .i64 i, .slice (some ⟨vb, 0, none⟩) 1 1] w (InsPost 265 14 stepCells (.slice (some ⟨g, 0, none⟩) l.length cap) (Dc.insertAt l i x) w) := by
 subst hcap
 obtain ⟨i0, hii, hz0, hz1, hz2⟩ := info_parts infoStep
 obtain ⟨cur, hg, hcs, htk⟩ : ∃ cur, w.heap[g]? = some (.cells cur 265 (0, 0)) ∧ cur.size = l.length * 14 ∧ cur.toList.take (l.length * 14) = l.flatMap stepCells := by
  rcases hrow.form with ⟨h, _⟩ | ⟨g', c', cur, h, h1, _, _, h4, h5⟩
  ·cases h
  ·simp only [Value.slice.injEq, Option.some.injEq, Addr.mk.injEq, and_true, true_and] at h
   obtain ⟨rfl, rfl⟩ := h
   exact ⟨cur, h1, h4, h5⟩
 have hgl := heap_lt hg
 have hvl := heap_lt hvb
 have hL : (l.flatMap stepCells).length = l.length * 14 := flat_length lenStep l
 have hcell : ∀ j u, (l.flatMap stepCells)[j]? = some u → w.cell? ⟨g, j, none⟩ = some u := fun j u hj => by
  rw [← htk] at hj
  rw [Cx hg, ← Array.getElem?_toList]
  rw [List.getElem?_take] at hj
  split at hj
  ·exact hj
  ·cases hj
 have hone : ∀ u ∈ l.flatMap stepCells, u.oneCell' = true := fun u hu => by
  obtain ⟨y, _, hy⟩ := List.mem_flatMap.1 hu
  exact oneStep y u hy
 have hfin : ∀ (w' : World) (c' : Nat) (cur' : Array Value), w'.heap[w.heap.size]? = some (.cells cur' 265 (0, 0)) → cur'.size = c' * 14 → l.length + 1 ≤ c' → c' ≤ maxLen → cur'.toList.take ((l.length + 1) * 14) = (l.take i).flatMap stepCells ++ stepCells x ++ (l.drop i).flatMap stepCells → Keeps No w w' →
   InsPost 265 14 stepCells (.slice (some ⟨g, 0, none⟩) l.length l.length) (Dc.insertAt l i x) w (.returned (.slice (some ⟨w.heap.size, 0, none⟩) (l.length + 1) c')) w' := by
  intro w' c' cur' h1 h2 h3 h4 h5 h6
  have hl2 : (Dc.insertAt l i x).length = l.length + 1 := Dc.length_insertAt (by omega)
  refine ⟨_, rfl, ⟨by rw [flat_length lenStep], .inr ⟨w.heap.size, c', cur', by rw [hl2], Nat.zero_le _, h1, by omega, h4, h2, by rw [hl2, flat_insert]; exact h5⟩⟩, h6.any, fun k hk => ?_⟩
  have hk' : some w.heap.size = some k := hk
  injection hk' with hk'
  exact .inr (by omega)
 generalize hN : l.length = n at *
 have HN := Hx hN
 generalize hLL : l.flatMap stepCells = L at *
 have HL := Hx hLL
 have hold : (Builtin.firstCells i0.size i (.slice (some ⟨g, 0, none⟩) i n)).run Tryz.prog w.drew = .ok (L.take (i * 14)).toArray w.drew := by
  rw [hz1]
  exact run_firstCells_some w.drew 14 i ⟨g, 0, none⟩ i n (L.take (i * 14)) (by rw [List.length_take]; omega) (fun j v hj => by
   have hadd : (⟨g, 0, none⟩ : Addr).add j = ⟨g, j, none⟩ := by unfold Addr.add; split <;> simp_all
   rw [hadd]
   rw [List.getElem?_take] at hj
   split at hj
   ·exact hcell j v hj
   ·cases hj)
 have hkk : (n : Int) + 1 - (i : Int) = ((n + 1 - i : Nat) : Int) := by omega
 have hik : i + (n + 1 - i) = n + 1 := by omega
 obtain ⟨G, hG⟩ : ∃ G, G = grownCap w (n + 1) n 265 := ⟨_, rfl⟩
 have hGn : n + 1 ≤ G := by rw [hG]; exact grownCap_ge w _ _ _
 have hGm : G ≤ maxLen := by rw [hG]; exact grownCap_le_maxLen w (n + 1) n 265 (by unfold maxLen; omega)
 obtain ⟨ROW, hROW⟩ : ∃ ROW : Array Value, ROW = (L.take (i * 14)).toArray ++ Builtin.zeroCells (.agg #[.int .i64 0, .int .i64 0, .int .i64 0, .int .i64 0, .int .i64 0, .int .i64 0, .int .i64 0, .int .i64 0, .string ⟨#[]⟩, .bool false, .int .i64 0, .int .i64 0, .string ⟨#[]⟩, .bool false] : Value).cells (n + 1 - i) ++ Builtin.zeroCells (.agg #[.int .i64 0, .int .i64 0, .int .i64 0, .int .i64 0, .int .i64 0, .int .i64 0, .int .i64 0, .int .i64 0, .string ⟨#[]⟩, .bool false, .int .i64 0, .int .i64 0, .string ⟨#[]⟩, .bool false] : Value).cells (G - (n + 1)) := ⟨_, rfl⟩
 have hRs : ROW.size = G * 14 := by
  rw [hROW]
  simp only [Array.size_append, List.size_toArray, List.length_take, size_zeroCells, hL]
  simp only [Value.cells]
  simp
  omega
 have hrz : ∀ ty, (Builtin.append_ #[192, 3] ty #[.slice (some ⟨g, 0, none⟩) i n, .int .i64 ((n : Int) + 1 - (i : Int))]).run Tryz.prog w = .ok (.slice (some ⟨w.heap.size, 0, none⟩) (n + 1) G) ((w.alloc (.cells ROW 265)).drew) := fun ty => by
  have h := Lib.run_append_grow_zeros w 192 3 ty 265 i0 _ .i64 .i64 Tryz.underlying192 Tryz.underlying3 hii hz0 (some ⟨g, 0, none⟩) i n (L.take (i * 14)) hold (n + 1 - i) (by omega) (by omega) (by omega) (by omega) (by rw [hz2]; omega) (by rw [hz2, hik]; exact growslice_fits (by omega) hbig)
  rw [hik] at h
  rw [hkk, hROW, hG]
  exact h
 have hW1 : ((w.alloc (.cells ROW 265)).drew).heap[w.heap.size]? = some (.cells ROW 265 (0, 0)) := Nx w.drew _
 have hcpA : ∀ ty dc, (Builtin.copy_ #[192, 192] ty #[.slice (some ⟨w.heap.size, i * 14, none⟩) (n + 1 - i) dc, .slice (some ⟨vb, 0, none⟩) 1 1]).run Tryz.prog ((w.alloc (.cells ROW 265)).drew) = .ok (goInt (Nat.min 1 (n + 1 - i))) (((w.alloc (.cells ROW 265)).drew).setCells w.heap.size (i * 14) (stepCells x)) := fun ty dc =>
  run_copy_k _ _ _ ty 265 14 w.heap.size (i * 14) (n + 1 - i) dc ⟨vb, 0, none⟩ 1 1 (stepCells x) Tryz.underlying192 Rx (by rw [lenStep, show Nat.min 1 (n + 1 - i) = 1 from by simp only [Nat.min_def]; split <;> omega])
   (fun j u hj => by
    have hadd : (⟨vb, 0, none⟩ : Addr).add j = ⟨vb, j, none⟩ := by unfold Addr.add; split <;> simp_all
    rw [hadd]; show (w.alloc (.cells ROW 265)).cell? ⟨vb, j, none⟩ = some u; rw [World.cell?_alloc_past (w := w) _ vb j hvl]
    exact (Cx hvb j).trans (by simpa using hj))
   hW1 (by rw [lenStep, hRs]; omega) (oneStep x)
 obtain ⟨cur2, h2, h2l⟩ := heap_setCells (stepCells x) (i * 14) _ ROW hW1 (by rw [lenStep, hRs]; omega)
 have h2s : cur2.size = G * 14 := by
  have := congrArg List.length h2l
  simp only [Array.length_toList, List.length_append, List.length_take, List.length_drop, lenStep, hRs] at this
  omega
 obtain ⟨W2, hW2⟩ : ∃ W2, W2 = ((w.alloc (.cells ROW 265)).drew).setCells w.heap.size (i * 14) (stepCells x) := ⟨_, rfl⟩
 have kk2 : Keeps No w W2 := by
  rw [hW2]
  refine (((Keeps.refl No w).alloc (.cells ROW 265)).drew).step (keeps_setCells _ _ _ (Keeps.refl (At1 w.heap.size) _)) fun k hk hlt => ?_
  unfold At1 at hk; omega
 rw [← hW2] at hcpA h2
 have hcpB : ∀ (W : World), W.heap = W2.heap → ∀ ty dc sc, (Builtin.copy_ #[192, 192] ty #[.slice (some ⟨w.heap.size, (i + 1) * 14, none⟩) (n + 1 - (i + 1)) dc, .slice (some ⟨g, i * 14, none⟩) (n - i) sc]).run Tryz.prog W = .ok (goInt (Nat.min (n - i) (n + 1 - (i + 1)))) (W.setCells w.heap.size ((i + 1) * 14) (L.drop (i * 14))) := fun W hW ty dc sc =>
  run_copy_k W _ _ ty 265 14 w.heap.size ((i + 1) * 14) (n + 1 - (i + 1)) dc ⟨g, i * 14, none⟩ (n - i) sc (L.drop (i * 14)) Tryz.underlying192 Rx (by rw [List.length_drop, hL, show Nat.min (n - i) (n + 1 - (i + 1)) = n - i from by simp only [Nat.min_def]; split <;> omega]; omega)
   (fun j u hj => by
    have hadd : (⟨g, i * 14, none⟩ : Addr).add j = ⟨g, i * 14 + j, none⟩ := by unfold Addr.add; split <;> simp_all
    rw [List.getElem?_drop] at hj
    rw [hadd, World.cell?_of_block (w := W2) (by rw [hW]), kk2.cell hgl id]
    exact hcell _ u hj)
   (by rw [hW]; exact h2) (by rw [List.length_drop, hL, h2s]; omega) (fun u hu => hone u (List.mem_of_mem_drop hu))
 have hFF : ∀ (W : World), W.heap = W2.heap → Keeps No w W → InsPost 265 14 stepCells (.slice (some ⟨g, 0, none⟩) n n) (Dc.insertAt l i x) w (.returned (.slice (some ⟨w.heap.size, 0, none⟩) (n + 1) G)) (W.setCells w.heap.size ((i + 1) * 14) (L.drop (i * 14))) := fun W hW hk => by
  obtain ⟨cur3, h3, h3l⟩ := heap_setCells (L.drop (i * 14)) ((i + 1) * 14) W cur2 (by rw [hW]; exact h2) (by rw [List.length_drop, hL, h2s]; omega)
  refine hfin _ G cur3 h3 ?_ hGn hGm ?_ ?_
  ·have := congrArg List.length h3l
   simp only [Array.length_toList, List.length_append, List.length_take, List.length_drop, hL, h2s] at this
   omega
  ·have e0 : ROW.toList.take (i * 14) = L.take (i * 14) := by
    rw [hROW]
    simp only [Array.toList_append, List.append_assoc]
    exact List.take_left' (by rw [List.length_take]; omega)
   have e1 : cur2.toList.take ((i + 1) * 14) = L.take (i * 14) ++ stepCells x := by
    rw [h2l, e0]
    exact List.take_left' (by rw [List.length_append, List.length_take, lenStep]; omega)
   rw [flat_take lenStep, flat_drop lenStep, HL.out, h3l, e1]
   exact List.take_left' (by simp only [List.length_append, List.length_take, List.length_drop, lenStep]; omega)
  ·refine hk.step (keeps_setCells _ _ _ (Keeps.refl (At1 w.heap.size) W)) fun k hk' hlt => ?_
   unfold At1 at hk'; omega
 have F1 := Hx hFF
 clear hW2
 have F2 := Hx hcpB
 have hnc : ¬ ((i : Int) = (n : Int)) := by omega
 have hin : i ≤ n := by omega
 have hb3 : (i : Int) ≤ (n : Int) := by omega
 have hw1 : IntKind.i64.wrap ((i : Int) + 1) = (i : Int) + 1 := by rw [IntKind.wrap_i64]; omega
 have hb1 : (0 : Int) ≤ (i : Int) + 1 := by omega
 have htn : ((i : Int) + 1).toNat = i + 1 := by omega
 have hGi : ¬ (G = i) := by omega
 have hGim : ¬ (G = i + 1) := by omega
 have hci : ¬ (n = i) := by omega
 have hG63 : G ≤ 9223372036854775807 := by unfold maxLen at hGm; omega
 have hgg : (n : Int) < (n : Int) + 1 := by omega
 clear hFF hcpB hfin hold hkk hik hG hROW hRs hW1 h2l h2s hcs htk hone hcell hL hrow
 go_enter Tryz.func171, Tryz.ntmps171
 go_wp2_with (first
  | (at_builtin; refine Lib.wpList_append_run _ rfl _ _ _ _ rfl _ _ rfl rfl _ _ (hrz _) ?_)
  | (refine wpList_copy_run _ rfl _ _ 192 192 rfl _ _ rfl rfl (hcpA _ _) ?_))
 go_region_law (refine step_copy_run rfl _ _ 192 192 rfl (.slice (some ⟨w.heap.size, (i + 1) * 14, none⟩) (n + 1 - (i + 1)) (G - (i + 1))) (.slice (some ⟨g, i * 14, none⟩) (n - i) (n - i)) (by simp [Act.eval, Act.put]) (by simp [Act.eval, Act.put]) (F2.out W2.drew rfl _ _ _) ?_)
 go_wp2
 go_ret
 exact F1.out W2.drew rfl kk2.drew
theorem insStep_room (l : List Dc.Step) (x : Dc.Step) (i vb g cap : Nat) (w : World) (hrow : RowIs 265 14 stepCells (.slice (some ⟨g, 0, none⟩) l.length cap) l w) (hi : i < l.length) (hvb : w.heap[vb]? = some (.cells (stepCells x).toArray 265 (0, 0))) (hne : vb ≠ g) (hcap : l.length < cap) :
  Calls Tryz.prog 171 #[.slice (some ⟨g, 0, none⟩) l.length cap, .int .i64 i, .slice (some ⟨vb, 0, none⟩) 1 1] w (InsPost 265 14 stepCells (.slice (some ⟨g, 0, none⟩) l.length cap) (Dc.insertAt l i x) w) := by
 obtain ⟨cur, hg, hcm, hcs, htk⟩ : ∃ cur, w.heap[g]? = some (.cells cur 265 (0, 0)) ∧ cap ≤ maxLen ∧ cur.size = cap * 14 ∧ cur.toList.take (l.length * 14) = l.flatMap stepCells := by
  rcases hrow.form with ⟨h, _⟩ | ⟨g', c', cur, h, h1, _, h3, h4, h5⟩
  ·cases h
  ·simp only [Value.slice.injEq, Option.some.injEq, Addr.mk.injEq, and_true, true_and] at h
   obtain ⟨rfl, rfl⟩ := h
   exact ⟨cur, h1, h3, h4, h5⟩
 have hgl := heap_lt hg
 have hvl := heap_lt hvb
 have hL : (l.flatMap stepCells).length = l.length * 14 := flat_length lenStep l
 have hcell : ∀ j u, (l.flatMap stepCells)[j]? = some u → w.cell? ⟨g, j, none⟩ = some u := fun j u hj => by
  rw [← htk] at hj
  rw [Cx hg, ← Array.getElem?_toList]
  rw [List.getElem?_take] at hj
  split at hj
  ·exact hj
  ·cases hj
 have hone : ∀ u ∈ l.flatMap stepCells, u.oneCell' = true := fun u hu => by
  obtain ⟨y, _, hy⟩ := List.mem_flatMap.1 hu
  exact oneStep y u hy
 have hfin : ∀ (w' : World) (cur' : Array Value), w'.heap[g]? = some (.cells cur' 265 (0, 0)) → cur'.size = cap * 14 → cur'.toList.take ((l.length + 1) * 14) = (l.take i).flatMap stepCells ++ stepCells x ++ (l.drop i).flatMap stepCells → Keeps (At1 g) w w' →
   InsPost 265 14 stepCells (.slice (some ⟨g, 0, none⟩) l.length cap) (Dc.insertAt l i x) w (.returned (.slice (some ⟨g, 0, none⟩) (l.length + 1) cap)) w' := by
  intro w' cur' h1 h2 h5 h6
  have hl2 : (Dc.insertAt l i x).length = l.length + 1 := Dc.length_insertAt (by omega)
  exact ⟨_, rfl, ⟨by rw [flat_length lenStep], .inr ⟨g, cap, cur', by rw [hl2], Nat.zero_le _, h1, by omega, hcm, h2, by rw [hl2, flat_insert]; exact h5⟩⟩, h6.mono fun k hk _ => by (unfold At1 at hk; subst hk; rfl), fun k hk => .inl hk⟩
 have hov : ∀ lb cb, (callFunc 223 #[.slice (some ⟨vb, 0, none⟩) 1 1, .slice (some ⟨g, (i + 1) * 14, none⟩) lb cb]).run Tryz.prog w = .ok (.value (.bool false)) w := fun lb cb => by
  rw [run_callFunc_extern Tryz.func223 Rx Rx Rx (e := Extern.SlicesOverlaps.overlaps #[192, 192] #[4]) Rx,
   Lib.run_overlaps_apart w 192 4 265 Tryz.underlying192 14 (fun w => by kernel_rfl) ⟨vb, 0, none⟩ ⟨g, (i + 1) * 14, none⟩ 1 1 lb cb hne 265 265 (stepCells x).toArray.size cur.size (by simp [World.shape?, hvb]) (by simp [World.shape?, hg]) (by omega) (Fx hvb _) (Fx hvb _)]
  rfl
 have hc0 : ¬ cap < l.length := by omega
 have hcm' : cap ≤ 9223372036854775807 := by unfold maxLen at hcm; omega
 generalize hN : l.length = n at *
 have HN := Hx hN
 generalize hLL : l.flatMap stepCells = L at *
 have HL := Hx hLL
 have hcpA : ∀ (W : World), W.heap = w.heap → ∀ ty dc sc, (Builtin.copy_ #[192, 192] ty #[.slice (some ⟨g, (i + 1) * 14, none⟩) (n + 1 - (i + 1)) dc, .slice (some ⟨g, i * 14, none⟩) (n + 1 - i) sc]).run Tryz.prog W = .ok (goInt (Nat.min (n + 1 - i) (n + 1 - (i + 1)))) (W.setCells g ((i + 1) * 14) (L.drop (i * 14))) := fun W hW ty dc sc =>
  run_copy_k W _ _ ty 265 14 g ((i + 1) * 14) (n + 1 - (i + 1)) dc ⟨g, i * 14, none⟩ (n + 1 - i) sc (L.drop (i * 14)) Tryz.underlying192 Rx (by rw [List.length_drop, hL, show Nat.min (n + 1 - i) (n + 1 - (i + 1)) = n - i from by simp only [Nat.min_def]; split <;> omega]; omega)
   (fun j u hj => by
    have hadd : (⟨g, i * 14, none⟩ : Addr).add j = ⟨g, i * 14 + j, none⟩ := by unfold Addr.add; split <;> simp_all
    rw [List.getElem?_drop] at hj
    rw [hadd, World.cell?_of_block (w := w) (by rw [hW])]
    exact hcell _ u hj)
   (by rw [hW]; exact hg) (by rw [List.length_drop, hL, hcs]; omega) (fun u hu => hone u (List.mem_of_mem_drop hu))
 obtain ⟨W2, hW2⟩ : ∃ W2, W2 = w.drew.setCells g ((i + 1) * 14) (L.drop (i * 14)) := ⟨_, rfl⟩
 obtain ⟨cur2, h2, h2l⟩ := heap_setCells (L.drop (i * 14)) ((i + 1) * 14) w.drew cur hg (by rw [List.length_drop, hL, hcs]; omega)
 rw [← hW2] at h2
 have h2s : cur2.size = cap * 14 := by
  have := congrArg List.length h2l
  simp only [Array.length_toList, List.length_append, List.length_take, List.length_drop, hL, hcs] at this
  omega
 have kk2 : Keeps (At1 g) w W2 := by
  rw [hW2]
  exact keeps_setCells _ _ _ ((Keeps.refl (At1 g) w).drew)
 have hcpA' : ∀ ty dc sc, (Builtin.copy_ #[192, 192] ty #[.slice (some ⟨g, (i + 1) * 14, none⟩) (n + 1 - (i + 1)) dc, .slice (some ⟨g, i * 14, none⟩) (n + 1 - i) sc]).run Tryz.prog w.drew = .ok (goInt (Nat.min (n + 1 - i) (n + 1 - (i + 1)))) W2 := fun ty dc sc => by
  rw [hW2]; exact hcpA w.drew rfl ty dc sc
 have hcpB : ∀ ty dc, (Builtin.copy_ #[192, 192] ty #[.slice (some ⟨g, i * 14, none⟩) (n + 1 - i) dc, .slice (some ⟨vb, 0, none⟩) 1 1]).run Tryz.prog W2 = .ok (goInt (Nat.min 1 (n + 1 - i))) (W2.setCells g (i * 14) (stepCells x)) := fun ty dc =>
  run_copy_k W2 _ _ ty 265 14 g (i * 14) (n + 1 - i) dc ⟨vb, 0, none⟩ 1 1 (stepCells x) Tryz.underlying192 Rx (by rw [lenStep, show Nat.min 1 (n + 1 - i) = 1 from by simp only [Nat.min_def]; split <;> omega])
   (fun j u hj => by
    have hadd : (⟨vb, 0, none⟩ : Addr).add j = ⟨vb, j, none⟩ := by unfold Addr.add; split <;> simp_all
    rw [hadd, kk2.cell hvl (fun e => hne e)]
    exact (Cx hvb j).trans (by simpa using hj))
   h2 (by rw [lenStep, h2s]; omega) (oneStep x)
 have hFF : InsPost 265 14 stepCells (.slice (some ⟨g, 0, none⟩) n cap) (Dc.insertAt l i x) w (.returned (.slice (some ⟨g, 0, none⟩) (n + 1) cap)) (W2.setCells g (i * 14) (stepCells x)) := by
  obtain ⟨cur3, h3, h3l⟩ := heap_setCells (stepCells x) (i * 14) W2 cur2 h2 (by rw [lenStep, h2s]; omega)
  refine hfin _ cur3 h3 ?_ ?_ (keeps_setCells _ _ _ kk2)
  ·have := congrArg List.length h3l
   simp only [Array.length_toList, List.length_append, List.length_take, List.length_drop, lenStep, h2s] at this
   omega
  ·have hcl : cur.toList.length = cap * 14 := by simpa using hcs
   have e0 : cur2.toList.take (i * 14) = L.take (i * 14) := by
    rw [h2l, List.append_assoc, List.take_append_of_le_length (by rw [List.length_take, hcl]; omega), List.take_take, Nat.min_eq_left (by omega), ← htk, List.take_take, Nat.min_eq_left (by omega)]
   have e1 : cur2.toList.drop ((i + 1) * 14) = L.drop (i * 14) ++ cur.toList.drop ((i + 1) * 14 + (L.drop (i * 14)).length) := by
    rw [h2l, List.append_assoc]
    exact List.drop_left' (by rw [List.length_take, hcl]; omega)
   rw [flat_take lenStep, flat_drop lenStep, HL.out, h3l, e0, lenStep, show i * 14 + 14 = (i + 1) * 14 by omega, e1, ← List.append_assoc]
   exact List.take_left' (by simp only [List.length_append, List.length_take, List.length_drop, lenStep, hL]; omega)
 have F1 := Hx hFF
 have F2 := Hx hcpA'
 have hnc : ¬ ((i : Int) = (n : Int)) := by omega
 have hin : i ≤ n := by omega
 have hb3 : (i : Int) ≤ (n : Int) := by omega
 have hb4 : (i : Int) ≤ (n : Int) + 1 := by omega
 have hw1 : IntKind.i64.wrap ((i : Int) + 1) = (i : Int) + 1 := by rw [IntKind.wrap_i64]; omega
 have hb1 : (0 : Int) ≤ (i : Int) + 1 := by omega
 have htn : ((i : Int) + 1).toNat = i + 1 := by omega
 have hci : ¬ (cap = i) := by omega
 have hci1 : ¬ (cap = i + 1) := by omega
 have hgg : (n : Int) + 1 ≤ (cap : Int) := by omega
 clear hFF hcpA hcpA' hfin hcs htk hone hcell hL hrow hW2 h2l h2s h2
 go_enter Tryz.func171, Tryz.ntmps171
 go_wp2_with (simp only [hov])
 go_region_law (refine step_copy_run rfl _ _ 192 192 rfl (.slice (some ⟨g, (i + 1) * 14, none⟩) (n + 1 - (i + 1)) (cap - (i + 1))) (.slice (some ⟨g, i * 14, none⟩) (n + 1 - i) (cap - i)) (by simp [Act.eval, Act.put]) (by simp [Act.eval, Act.put]) (F2.out _ _ _) ?_)
 go_wp2_with (refine wpList_copy_run _ rfl _ _ 192 192 rfl _ _ rfl rfl (hcpB _ _) ?_)
 go_ret
 exact F1.out
theorem insStep_any (v : Value) (l : List Dc.Step) (x : Dc.Step) (i vb : Nat) (w : World) (hrow : RowIs 265 14 stepCells v l w) (hvb : w.heap[vb]? = some (.cells (stepCells x).toArray 265 (0, 0))) (hne : v.ownBlock ≠ some vb) (hbig : (l.length + 1) * 128 ≤ 140737488355328) (hi : i ≤ l.length) :
  Calls Tryz.prog 171 #[v, .int .i64 i, .slice (some ⟨vb, 0, none⟩) 1 1] w (InsPost 265 14 stepCells v (Dc.insertAt l i x) w) := by
 rcases Nat.eq_or_lt_of_le hi with rfl | hlt
 ·exact insStep_end v l x vb w hrow hvb hne hbig
 ·rcases hrow.form with ⟨rfl, rfl⟩ | ⟨g, cap, cur, rfl, hg, hcap, _⟩
  ·simp at hlt
  ·rcases Nat.eq_or_lt_of_le hcap with e | hc
   ·subst e
    exact insStep_grow l x i vb g _ w hrow hlt hvb hbig rfl
   ·exact insStep_room l x i vb g cap w hrow hlt hvb (fun e => hne (by rw [e]; rfl)) hc
theorem infoRun : (Tryz.prog.info? 285).map (fun i => (i.zero, i.size, i.bytes)) = some (some (.agg #[.int .i64 0, .int .i64 0, .int .i64 0, .int .i64 0, .int .i64 0, .int .i64 0, .int .i64 0, .int .i64 0, .int .i64 0, .int .i64 0, .bool false, .bool false, .string ⟨#[]⟩]), 13, 104) := by kernel_rfl
theorem oneRun (x : Dc.Run) : ∀ u ∈ runCells x, u.oneCell' = true := fun u hu => List.all_eq_true.1 (show (runCells x).all (·.oneCell') = true from rfl) u hu
theorem lenRun (x : Dc.Run) : (runCells x).length = 13 := rfl
theorem insRun_end (v : Value) (l : List Dc.Run) (x : Dc.Run) (vb : Nat) (w : World) (hrow : RowIs 285 13 runCells v l w) (hvb : w.heap[vb]? = some (.cells (runCells x).toArray 285 (0, 0))) (hne : v.ownBlock ≠ some vb) (hbig : (l.length + 1) * 104 ≤ 140737488355328) :
  Calls Tryz.prog 299 #[v, .int .i64 l.length, .slice (some ⟨vb, 0, none⟩) 1 1] w (InsPost 285 13 runCells v (Dc.insertAt l l.length x) w) := by
 obtain ⟨i0, hi, hz0, hz1, hz2⟩ := info_parts infoRun
 have hown : w.ownsRow 0 285 13 v l.length (l.flatMap runCells) := hrow
 have hlm := hrow.len_le
 have hnews : ∀ j u, (runCells x)[j]? = some u → w.cell? ((⟨vb, 0, none⟩ : Addr).add j) = some u := fun j u hj => by
  have hadd : (⟨vb, 0, none⟩ : Addr).add j = ⟨vb, j, none⟩ := by unfold Addr.add; split <;> simp_all
  rw [hadd, Cx hvb]; simpa using hj
 have hfin : ∀ v' w', w'.ownsRow 0 285 13 v' (l.length + 1) (l.flatMap runCells ++ runCells x) → w.grownBy w' v.ownBlock → (v'.ownBlock = v.ownBlock ∨ v'.ownBlock = some w.heap.size) → InsPost 285 13 runCells v (Dc.insertAt l l.length x) w (.returned v') w' := by
  intro v' w' h1 h2 h3
  refine ⟨v', rfl, ?_, ⟨h2.os, h2.tape, h2.output, h2.size, fun k hk hn => h2.block k hk fun e => hn e.symm⟩, fun g hg => ?_⟩
  ·unfold RowIs
   rw [Dc.length_insertAt (Nat.le_refl _), flat_insert, List.take_length, List.drop_length]
   simpa using h1
  ·rcases h3 with h3 | h3
   ·exact .inl (h3 ▸ hg)
   ·rw [h3] at hg; cases hg; exact .inr (Nat.le_refl _)
 unfold maxLen at hlm
 rcases hrow.form with ⟨rfl, rfl⟩ | ⟨g, cap, cur, rfl, hg, hcap, hcm, _, _⟩
 ·have F := Hx hfin
  clear hfin hrow
  go_enter Tryz.func299, Tryz.ntmps299
  go_wp2_with (at_builtin; refine wpList_append_own_at _ rfl _ _ 281 rfl 0 285 i0 (.agg #[.int .i64 0, .int .i64 0, .int .i64 0, .int .i64 0, .int .i64 0, .int .i64 0, .int .i64 0, .int .i64 0, .int .i64 0, .int .i64 0, .bool false, .bool false, .string ⟨#[]⟩]) 13 104 Tryz.underlying281 hi hz0 hz1 hz2 rfl (by decide) _ _ _ rfl hown ⟨vb, 0, none⟩ 1 1 (runCells x) rfl rfl hnews (oneRun x) ?c3 ?c4 (Nat.zero_le _) ?_)
  case c3 => simp [maxLen]
  case c4 => simp
  intro v' w' h1 h2 _ h3
  have P := F.out v' w' (by simpa using h1) h2 h3
  obtain ⟨v2, e2, r2, k2, b2⟩ := P
  obtain rfl : v2 = v' := by injection e2 with e2; exact e2.symm
  have R2 := Hx r2
  obtain ⟨g2, c2, rfl, _⟩ := r2.at (by rw [Dc.length_insertAt (Nat.le_refl _)]; omega)
  clear h1 h2 h3 r2 e2
  go_wp2
  go_ret
  exact ⟨_, rfl, R2.out, k2, b2⟩
 ·have F := Hx hfin
  have hc0 : ¬ cap < l.length := by omega
  have hcm' : cap ≤ 9223372036854775807 := by unfold maxLen at hcm; omega
  generalize hN : l.length = n at *
  have HN := Hx hN
  clear hfin hrow hN
  by_cases hcn : cap = n
  all_goals
   go_enter Tryz.func299, Tryz.ntmps299
   go_wp2_with (at_builtin; refine wpList_append_own_at _ rfl _ _ 281 rfl 0 285 i0 (.agg #[.int .i64 0, .int .i64 0, .int .i64 0, .int .i64 0, .int .i64 0, .int .i64 0, .int .i64 0, .int .i64 0, .int .i64 0, .int .i64 0, .bool false, .bool false, .string ⟨#[]⟩]) 13 104 Tryz.underlying281 hi hz0 hz1 hz2 rfl (by decide) _ _ _ rfl (by first | exact hown | exact hcn ▸ hown) ⟨vb, 0, none⟩ 1 1 (runCells x) rfl rfl hnews (oneRun x) (by unfold maxLen; omega) (by omega) (Nat.zero_le _) ?_)
  all_goals
   intro v' w' h1 h2 _ h3
   have P := F.out v' w' (by first | exact h1 | (rw [← hcn]; exact h1)) (by first | exact h2 | (rw [← hcn]; exact h2)) (by first | exact h3 | (rw [← hcn]; exact h3))
   obtain ⟨v2, e2, r2, k2, b2⟩ := P
   obtain rfl : v2 = v' := by injection e2 with e2; exact e2.symm
   have R2 := Hx r2
   obtain ⟨g2, c2, rfl, _⟩ := r2.at (by rw [Dc.length_insertAt (by rw [HN.out]; exact Nat.le_refl _)]; omega)
   clear h1 h2 h3 r2 e2
   have Z := Hx (show InsPost 285 13 runCells _ (Dc.insertAt l n x) w _ w' from ⟨_, rfl, R2.out, k2, b2⟩)
   go_wp2
   go_ret
   exact Z.out
theorem insRun_grow (l : List Dc.Run) (x : Dc.Run) (i vb g cap : Nat) (w : World) (hrow : RowIs 285 13 runCells (.slice (some ⟨g, 0, none⟩) l.length cap) l w) (hi : i < l.length) (hvb : w.heap[vb]? = some (.cells (runCells x).toArray 285 (0, 0))) (hbig : (l.length + 1) * 104 ≤ 140737488355328) (hcap : cap = l.length) :
  Calls Tryz.prog 299 #[.slice (some ⟨g, 0, none⟩) l.length cap, .int .i64 i, .slice (some ⟨vb, 0, none⟩) 1 1] w (InsPost 285 13 runCells (.slice (some ⟨g, 0, none⟩) l.length cap) (Dc.insertAt l i x) w) := by
 subst hcap
 obtain ⟨i0, hii, hz0, hz1, hz2⟩ := info_parts infoRun
 obtain ⟨cur, hg, hcs, htk⟩ : ∃ cur, w.heap[g]? = some (.cells cur 285 (0, 0)) ∧ cur.size = l.length * 13 ∧ cur.toList.take (l.length * 13) = l.flatMap runCells := by
  rcases hrow.form with ⟨h, _⟩ | ⟨g', c', cur, h, h1, _, _, h4, h5⟩
  ·cases h
  ·simp only [Value.slice.injEq, Option.some.injEq, Addr.mk.injEq, and_true, true_and] at h
   obtain ⟨rfl, rfl⟩ := h
   exact ⟨cur, h1, h4, h5⟩
 have hgl := heap_lt hg
 have hvl := heap_lt hvb
 have hL : (l.flatMap runCells).length = l.length * 13 := flat_length lenRun l
 have hcell : ∀ j u, (l.flatMap runCells)[j]? = some u → w.cell? ⟨g, j, none⟩ = some u := fun j u hj => by
  rw [← htk] at hj
  rw [Cx hg, ← Array.getElem?_toList]
  rw [List.getElem?_take] at hj
  split at hj
  ·exact hj
  ·cases hj
 have hone : ∀ u ∈ l.flatMap runCells, u.oneCell' = true := fun u hu => by
  obtain ⟨y, _, hy⟩ := List.mem_flatMap.1 hu
  exact oneRun y u hy
 have hfin : ∀ (w' : World) (c' : Nat) (cur' : Array Value), w'.heap[w.heap.size]? = some (.cells cur' 285 (0, 0)) → cur'.size = c' * 13 → l.length + 1 ≤ c' → c' ≤ maxLen → cur'.toList.take ((l.length + 1) * 13) = (l.take i).flatMap runCells ++ runCells x ++ (l.drop i).flatMap runCells → Keeps No w w' →
   InsPost 285 13 runCells (.slice (some ⟨g, 0, none⟩) l.length l.length) (Dc.insertAt l i x) w (.returned (.slice (some ⟨w.heap.size, 0, none⟩) (l.length + 1) c')) w' := by
  intro w' c' cur' h1 h2 h3 h4 h5 h6
  have hl2 : (Dc.insertAt l i x).length = l.length + 1 := Dc.length_insertAt (by omega)
  refine ⟨_, rfl, ⟨by rw [flat_length lenRun], .inr ⟨w.heap.size, c', cur', by rw [hl2], Nat.zero_le _, h1, by omega, h4, h2, by rw [hl2, flat_insert]; exact h5⟩⟩, h6.any, fun k hk => ?_⟩
  have hk' : some w.heap.size = some k := hk
  injection hk' with hk'
  exact .inr (by omega)
 generalize hN : l.length = n at *
 have HN := Hx hN
 generalize hLL : l.flatMap runCells = L at *
 have HL := Hx hLL
 have hold : (Builtin.firstCells i0.size i (.slice (some ⟨g, 0, none⟩) i n)).run Tryz.prog w.drew = .ok (L.take (i * 13)).toArray w.drew := by
  rw [hz1]
  exact run_firstCells_some w.drew 13 i ⟨g, 0, none⟩ i n (L.take (i * 13)) (by rw [List.length_take]; omega) (fun j v hj => by
   have hadd : (⟨g, 0, none⟩ : Addr).add j = ⟨g, j, none⟩ := by unfold Addr.add; split <;> simp_all
   rw [hadd]
   rw [List.getElem?_take] at hj
   split at hj
   ·exact hcell j v hj
   ·cases hj)
 have hkk : (n : Int) + 1 - (i : Int) = ((n + 1 - i : Nat) : Int) := by omega
 have hik : i + (n + 1 - i) = n + 1 := by omega
 obtain ⟨G, hG⟩ : ∃ G, G = grownCap w (n + 1) n 285 := ⟨_, rfl⟩
 have hGn : n + 1 ≤ G := by rw [hG]; exact grownCap_ge w _ _ _
 have hGm : G ≤ maxLen := by rw [hG]; exact grownCap_le_maxLen w (n + 1) n 285 (by unfold maxLen; omega)
 obtain ⟨ROW, hROW⟩ : ∃ ROW : Array Value, ROW = (L.take (i * 13)).toArray ++ Builtin.zeroCells (.agg #[.int .i64 0, .int .i64 0, .int .i64 0, .int .i64 0, .int .i64 0, .int .i64 0, .int .i64 0, .int .i64 0, .int .i64 0, .int .i64 0, .bool false, .bool false, .string ⟨#[]⟩] : Value).cells (n + 1 - i) ++ Builtin.zeroCells (.agg #[.int .i64 0, .int .i64 0, .int .i64 0, .int .i64 0, .int .i64 0, .int .i64 0, .int .i64 0, .int .i64 0, .int .i64 0, .int .i64 0, .bool false, .bool false, .string ⟨#[]⟩] : Value).cells (G - (n + 1)) := ⟨_, rfl⟩
 have hRs : ROW.size = G * 13 := by
  rw [hROW]
  simp only [Array.size_append, List.size_toArray, List.length_take, size_zeroCells, hL]
  simp only [Value.cells]
  simp
  omega
 have hrz : ∀ ty, (Builtin.append_ #[281, 3] ty #[.slice (some ⟨g, 0, none⟩) i n, .int .i64 ((n : Int) + 1 - (i : Int))]).run Tryz.prog w = .ok (.slice (some ⟨w.heap.size, 0, none⟩) (n + 1) G) ((w.alloc (.cells ROW 285)).drew) := fun ty => by
  have h := Lib.run_append_grow_zeros w 281 3 ty 285 i0 _ .i64 .i64 Tryz.underlying281 Tryz.underlying3 hii hz0 (some ⟨g, 0, none⟩) i n (L.take (i * 13)) hold (n + 1 - i) (by omega) (by omega) (by omega) (by omega) (by rw [hz2]; omega) (by rw [hz2, hik]; exact growslice_fits (by omega) hbig)
  rw [hik] at h
  rw [hkk, hROW, hG]
  exact h
 have hW1 : ((w.alloc (.cells ROW 285)).drew).heap[w.heap.size]? = some (.cells ROW 285 (0, 0)) := Nx w.drew _
 have hcpA : ∀ ty dc, (Builtin.copy_ #[281, 281] ty #[.slice (some ⟨w.heap.size, i * 13, none⟩) (n + 1 - i) dc, .slice (some ⟨vb, 0, none⟩) 1 1]).run Tryz.prog ((w.alloc (.cells ROW 285)).drew) = .ok (goInt (Nat.min 1 (n + 1 - i))) (((w.alloc (.cells ROW 285)).drew).setCells w.heap.size (i * 13) (runCells x)) := fun ty dc =>
  run_copy_k _ _ _ ty 285 13 w.heap.size (i * 13) (n + 1 - i) dc ⟨vb, 0, none⟩ 1 1 (runCells x) Tryz.underlying281 Rx (by rw [lenRun, show Nat.min 1 (n + 1 - i) = 1 from by simp only [Nat.min_def]; split <;> omega])
   (fun j u hj => by
    have hadd : (⟨vb, 0, none⟩ : Addr).add j = ⟨vb, j, none⟩ := by unfold Addr.add; split <;> simp_all
    rw [hadd]; show (w.alloc (.cells ROW 285)).cell? ⟨vb, j, none⟩ = some u; rw [World.cell?_alloc_past (w := w) _ vb j hvl]
    exact (Cx hvb j).trans (by simpa using hj))
   hW1 (by rw [lenRun, hRs]; omega) (oneRun x)
 obtain ⟨cur2, h2, h2l⟩ := heap_setCells (runCells x) (i * 13) _ ROW hW1 (by rw [lenRun, hRs]; omega)
 have h2s : cur2.size = G * 13 := by
  have := congrArg List.length h2l
  simp only [Array.length_toList, List.length_append, List.length_take, List.length_drop, lenRun, hRs] at this
  omega
 obtain ⟨W2, hW2⟩ : ∃ W2, W2 = ((w.alloc (.cells ROW 285)).drew).setCells w.heap.size (i * 13) (runCells x) := ⟨_, rfl⟩
 have kk2 : Keeps No w W2 := by
  rw [hW2]
  refine (((Keeps.refl No w).alloc (.cells ROW 285)).drew).step (keeps_setCells _ _ _ (Keeps.refl (At1 w.heap.size) _)) fun k hk hlt => ?_
  unfold At1 at hk; omega
 rw [← hW2] at hcpA h2
 have hcpB : ∀ (W : World), W.heap = W2.heap → ∀ ty dc sc, (Builtin.copy_ #[281, 281] ty #[.slice (some ⟨w.heap.size, (i + 1) * 13, none⟩) (n + 1 - (i + 1)) dc, .slice (some ⟨g, i * 13, none⟩) (n - i) sc]).run Tryz.prog W = .ok (goInt (Nat.min (n - i) (n + 1 - (i + 1)))) (W.setCells w.heap.size ((i + 1) * 13) (L.drop (i * 13))) := fun W hW ty dc sc =>
  run_copy_k W _ _ ty 285 13 w.heap.size ((i + 1) * 13) (n + 1 - (i + 1)) dc ⟨g, i * 13, none⟩ (n - i) sc (L.drop (i * 13)) Tryz.underlying281 Rx (by rw [List.length_drop, hL, show Nat.min (n - i) (n + 1 - (i + 1)) = n - i from by simp only [Nat.min_def]; split <;> omega]; omega)
   (fun j u hj => by
    have hadd : (⟨g, i * 13, none⟩ : Addr).add j = ⟨g, i * 13 + j, none⟩ := by unfold Addr.add; split <;> simp_all
    rw [List.getElem?_drop] at hj
    rw [hadd, World.cell?_of_block (w := W2) (by rw [hW]), kk2.cell hgl id]
    exact hcell _ u hj)
   (by rw [hW]; exact h2) (by rw [List.length_drop, hL, h2s]; omega) (fun u hu => hone u (List.mem_of_mem_drop hu))
 have hFF : ∀ (W : World), W.heap = W2.heap → Keeps No w W → InsPost 285 13 runCells (.slice (some ⟨g, 0, none⟩) n n) (Dc.insertAt l i x) w (.returned (.slice (some ⟨w.heap.size, 0, none⟩) (n + 1) G)) (W.setCells w.heap.size ((i + 1) * 13) (L.drop (i * 13))) := fun W hW hk => by
  obtain ⟨cur3, h3, h3l⟩ := heap_setCells (L.drop (i * 13)) ((i + 1) * 13) W cur2 (by rw [hW]; exact h2) (by rw [List.length_drop, hL, h2s]; omega)
  refine hfin _ G cur3 h3 ?_ hGn hGm ?_ ?_
  ·have := congrArg List.length h3l
   simp only [Array.length_toList, List.length_append, List.length_take, List.length_drop, hL, h2s] at this
   omega
  ·have e0 : ROW.toList.take (i * 13) = L.take (i * 13) := by
    rw [hROW]
    simp only [Array.toList_append, List.append_assoc]
    exact List.take_left' (by rw [List.length_take]; omega)
   have e1 : cur2.toList.take ((i + 1) * 13) = L.take (i * 13) ++ runCells x := by
    rw [h2l, e0]
    exact List.take_left' (by rw [List.length_append, List.length_take, lenRun]; omega)
   rw [flat_take lenRun, flat_drop lenRun, HL.out, h3l, e1]
   exact List.take_left' (by simp only [List.length_append, List.length_take, List.length_drop, lenRun]; omega)
  ·refine hk.step (keeps_setCells _ _ _ (Keeps.refl (At1 w.heap.size) W)) fun k hk' hlt => ?_
   unfold At1 at hk'; omega
 have F1 := Hx hFF
 clear hW2
 have F2 := Hx hcpB
 have hnc : ¬ ((i : Int) = (n : Int)) := by omega
 have hin : i ≤ n := by omega
 have hb3 : (i : Int) ≤ (n : Int) := by omega
 have hw1 : IntKind.i64.wrap ((i : Int) + 1) = (i : Int) + 1 := by rw [IntKind.wrap_i64]; omega
 have hb1 : (0 : Int) ≤ (i : Int) + 1 := by omega
 have htn : ((i : Int) + 1).toNat = i + 1 := by omega
 have hGi : ¬ (G = i) := by omega
 have hGim : ¬ (G = i + 1) := by omega
 have hci : ¬ (n = i) := by omega
 have hG63 : G ≤ 9223372036854775807 := by unfold maxLen at hGm; omega
 have hgg : (n : Int) < (n : Int) + 1 := by omega
 clear hFF hcpB hfin hold hkk hik hG hROW hRs hW1 h2l h2s hcs htk hone hcell hL hrow
 go_enter Tryz.func299, Tryz.ntmps299
 go_wp2_with (first
  | (at_builtin; refine Lib.wpList_append_run _ rfl _ _ _ _ rfl _ _ rfl rfl _ _ (hrz _) ?_)
  | (refine wpList_copy_run _ rfl _ _ 281 281 rfl _ _ rfl rfl (hcpA _ _) ?_))
 go_region_law (refine step_copy_run rfl _ _ 281 281 rfl (.slice (some ⟨w.heap.size, (i + 1) * 13, none⟩) (n + 1 - (i + 1)) (G - (i + 1))) (.slice (some ⟨g, i * 13, none⟩) (n - i) (n - i)) (by simp [Act.eval, Act.put]) (by simp [Act.eval, Act.put]) (F2.out W2.drew rfl _ _ _) ?_)
 go_wp2
 go_ret
 exact F1.out W2.drew rfl kk2.drew
theorem insRun_room (l : List Dc.Run) (x : Dc.Run) (i vb g cap : Nat) (w : World) (hrow : RowIs 285 13 runCells (.slice (some ⟨g, 0, none⟩) l.length cap) l w) (hi : i < l.length) (hvb : w.heap[vb]? = some (.cells (runCells x).toArray 285 (0, 0))) (hne : vb ≠ g) (hcap : l.length < cap) :
  Calls Tryz.prog 299 #[.slice (some ⟨g, 0, none⟩) l.length cap, .int .i64 i, .slice (some ⟨vb, 0, none⟩) 1 1] w (InsPost 285 13 runCells (.slice (some ⟨g, 0, none⟩) l.length cap) (Dc.insertAt l i x) w) := by
 obtain ⟨cur, hg, hcm, hcs, htk⟩ : ∃ cur, w.heap[g]? = some (.cells cur 285 (0, 0)) ∧ cap ≤ maxLen ∧ cur.size = cap * 13 ∧ cur.toList.take (l.length * 13) = l.flatMap runCells := by
  rcases hrow.form with ⟨h, _⟩ | ⟨g', c', cur, h, h1, _, h3, h4, h5⟩
  ·cases h
  ·simp only [Value.slice.injEq, Option.some.injEq, Addr.mk.injEq, and_true, true_and] at h
   obtain ⟨rfl, rfl⟩ := h
   exact ⟨cur, h1, h3, h4, h5⟩
 have hgl := heap_lt hg
 have hvl := heap_lt hvb
 have hL : (l.flatMap runCells).length = l.length * 13 := flat_length lenRun l
 have hcell : ∀ j u, (l.flatMap runCells)[j]? = some u → w.cell? ⟨g, j, none⟩ = some u := fun j u hj => by
  rw [← htk] at hj
  rw [Cx hg, ← Array.getElem?_toList]
  rw [List.getElem?_take] at hj
  split at hj
  ·exact hj
  ·cases hj
 have hone : ∀ u ∈ l.flatMap runCells, u.oneCell' = true := fun u hu => by
  obtain ⟨y, _, hy⟩ := List.mem_flatMap.1 hu
  exact oneRun y u hy
 have hfin : ∀ (w' : World) (cur' : Array Value), w'.heap[g]? = some (.cells cur' 285 (0, 0)) → cur'.size = cap * 13 → cur'.toList.take ((l.length + 1) * 13) = (l.take i).flatMap runCells ++ runCells x ++ (l.drop i).flatMap runCells → Keeps (At1 g) w w' →
   InsPost 285 13 runCells (.slice (some ⟨g, 0, none⟩) l.length cap) (Dc.insertAt l i x) w (.returned (.slice (some ⟨g, 0, none⟩) (l.length + 1) cap)) w' := by
  intro w' cur' h1 h2 h5 h6
  have hl2 : (Dc.insertAt l i x).length = l.length + 1 := Dc.length_insertAt (by omega)
  exact ⟨_, rfl, ⟨by rw [flat_length lenRun], .inr ⟨g, cap, cur', by rw [hl2], Nat.zero_le _, h1, by omega, hcm, h2, by rw [hl2, flat_insert]; exact h5⟩⟩, h6.mono fun k hk _ => by (unfold At1 at hk; subst hk; rfl), fun k hk => .inl hk⟩
 have hov : ∀ lb cb, (callFunc 334 #[.slice (some ⟨vb, 0, none⟩) 1 1, .slice (some ⟨g, (i + 1) * 13, none⟩) lb cb]).run Tryz.prog w = .ok (.value (.bool false)) w := fun lb cb => by
  rw [run_callFunc_extern Tryz.func334 Rx Rx Rx (e := Extern.SlicesOverlaps.overlaps #[281, 281] #[4]) Rx,
   Lib.run_overlaps_apart w 281 4 285 Tryz.underlying281 13 (fun w => by kernel_rfl) ⟨vb, 0, none⟩ ⟨g, (i + 1) * 13, none⟩ 1 1 lb cb hne 285 285 (runCells x).toArray.size cur.size (by simp [World.shape?, hvb]) (by simp [World.shape?, hg]) (by omega) (Fx hvb _) (Fx hvb _)]
  rfl
 have hc0 : ¬ cap < l.length := by omega
 have hcm' : cap ≤ 9223372036854775807 := by unfold maxLen at hcm; omega
 generalize hN : l.length = n at *
 have HN := Hx hN
 generalize hLL : l.flatMap runCells = L at *
 have HL := Hx hLL
 have hcpA : ∀ (W : World), W.heap = w.heap → ∀ ty dc sc, (Builtin.copy_ #[281, 281] ty #[.slice (some ⟨g, (i + 1) * 13, none⟩) (n + 1 - (i + 1)) dc, .slice (some ⟨g, i * 13, none⟩) (n + 1 - i) sc]).run Tryz.prog W = .ok (goInt (Nat.min (n + 1 - i) (n + 1 - (i + 1)))) (W.setCells g ((i + 1) * 13) (L.drop (i * 13))) := fun W hW ty dc sc =>
  run_copy_k W _ _ ty 285 13 g ((i + 1) * 13) (n + 1 - (i + 1)) dc ⟨g, i * 13, none⟩ (n + 1 - i) sc (L.drop (i * 13)) Tryz.underlying281 Rx (by rw [List.length_drop, hL, show Nat.min (n + 1 - i) (n + 1 - (i + 1)) = n - i from by simp only [Nat.min_def]; split <;> omega]; omega)
   (fun j u hj => by
    have hadd : (⟨g, i * 13, none⟩ : Addr).add j = ⟨g, i * 13 + j, none⟩ := by unfold Addr.add; split <;> simp_all
    rw [List.getElem?_drop] at hj
    rw [hadd, World.cell?_of_block (w := w) (by rw [hW])]
    exact hcell _ u hj)
   (by rw [hW]; exact hg) (by rw [List.length_drop, hL, hcs]; omega) (fun u hu => hone u (List.mem_of_mem_drop hu))
 obtain ⟨W2, hW2⟩ : ∃ W2, W2 = w.drew.setCells g ((i + 1) * 13) (L.drop (i * 13)) := ⟨_, rfl⟩
 obtain ⟨cur2, h2, h2l⟩ := heap_setCells (L.drop (i * 13)) ((i + 1) * 13) w.drew cur hg (by rw [List.length_drop, hL, hcs]; omega)
 rw [← hW2] at h2
 have h2s : cur2.size = cap * 13 := by
  have := congrArg List.length h2l
  simp only [Array.length_toList, List.length_append, List.length_take, List.length_drop, hL, hcs] at this
  omega
 have kk2 : Keeps (At1 g) w W2 := by
  rw [hW2]
  exact keeps_setCells _ _ _ ((Keeps.refl (At1 g) w).drew)
 have hcpA' : ∀ ty dc sc, (Builtin.copy_ #[281, 281] ty #[.slice (some ⟨g, (i + 1) * 13, none⟩) (n + 1 - (i + 1)) dc, .slice (some ⟨g, i * 13, none⟩) (n + 1 - i) sc]).run Tryz.prog w.drew = .ok (goInt (Nat.min (n + 1 - i) (n + 1 - (i + 1)))) W2 := fun ty dc sc => by
  rw [hW2]; exact hcpA w.drew rfl ty dc sc
 have hcpB : ∀ ty dc, (Builtin.copy_ #[281, 281] ty #[.slice (some ⟨g, i * 13, none⟩) (n + 1 - i) dc, .slice (some ⟨vb, 0, none⟩) 1 1]).run Tryz.prog W2 = .ok (goInt (Nat.min 1 (n + 1 - i))) (W2.setCells g (i * 13) (runCells x)) := fun ty dc =>
  run_copy_k W2 _ _ ty 285 13 g (i * 13) (n + 1 - i) dc ⟨vb, 0, none⟩ 1 1 (runCells x) Tryz.underlying281 Rx (by rw [lenRun, show Nat.min 1 (n + 1 - i) = 1 from by simp only [Nat.min_def]; split <;> omega])
   (fun j u hj => by
    have hadd : (⟨vb, 0, none⟩ : Addr).add j = ⟨vb, j, none⟩ := by unfold Addr.add; split <;> simp_all
    rw [hadd, kk2.cell hvl (fun e => hne e)]
    exact (Cx hvb j).trans (by simpa using hj))
   h2 (by rw [lenRun, h2s]; omega) (oneRun x)
 have hFF : InsPost 285 13 runCells (.slice (some ⟨g, 0, none⟩) n cap) (Dc.insertAt l i x) w (.returned (.slice (some ⟨g, 0, none⟩) (n + 1) cap)) (W2.setCells g (i * 13) (runCells x)) := by
  obtain ⟨cur3, h3, h3l⟩ := heap_setCells (runCells x) (i * 13) W2 cur2 h2 (by rw [lenRun, h2s]; omega)
  refine hfin _ cur3 h3 ?_ ?_ (keeps_setCells _ _ _ kk2)
  ·have := congrArg List.length h3l
   simp only [Array.length_toList, List.length_append, List.length_take, List.length_drop, lenRun, h2s] at this
   omega
  ·have hcl : cur.toList.length = cap * 13 := by simpa using hcs
   have e0 : cur2.toList.take (i * 13) = L.take (i * 13) := by
    rw [h2l, List.append_assoc, List.take_append_of_le_length (by rw [List.length_take, hcl]; omega), List.take_take, Nat.min_eq_left (by omega), ← htk, List.take_take, Nat.min_eq_left (by omega)]
   have e1 : cur2.toList.drop ((i + 1) * 13) = L.drop (i * 13) ++ cur.toList.drop ((i + 1) * 13 + (L.drop (i * 13)).length) := by
    rw [h2l, List.append_assoc]
    exact List.drop_left' (by rw [List.length_take, hcl]; omega)
   rw [flat_take lenRun, flat_drop lenRun, HL.out, h3l, e0, lenRun, show i * 13 + 13 = (i + 1) * 13 by omega, e1, ← List.append_assoc]
   exact List.take_left' (by simp only [List.length_append, List.length_take, List.length_drop, lenRun, hL]; omega)
 have F1 := Hx hFF
 have F2 := Hx hcpA'
 have hnc : ¬ ((i : Int) = (n : Int)) := by omega
 have hin : i ≤ n := by omega
 have hb3 : (i : Int) ≤ (n : Int) := by omega
 have hb4 : (i : Int) ≤ (n : Int) + 1 := by omega
 have hw1 : IntKind.i64.wrap ((i : Int) + 1) = (i : Int) + 1 := by rw [IntKind.wrap_i64]; omega
 have hb1 : (0 : Int) ≤ (i : Int) + 1 := by omega
 have htn : ((i : Int) + 1).toNat = i + 1 := by omega
 have hci : ¬ (cap = i) := by omega
 have hci1 : ¬ (cap = i + 1) := by omega
 have hgg : (n : Int) + 1 ≤ (cap : Int) := by omega
 clear hFF hcpA hcpA' hfin hcs htk hone hcell hL hrow hW2 h2l h2s h2
 go_enter Tryz.func299, Tryz.ntmps299
 go_wp2_with (simp only [hov])
 go_region_law (refine step_copy_run rfl _ _ 281 281 rfl (.slice (some ⟨g, (i + 1) * 13, none⟩) (n + 1 - (i + 1)) (cap - (i + 1))) (.slice (some ⟨g, i * 13, none⟩) (n + 1 - i) (cap - i)) (by simp [Act.eval, Act.put]) (by simp [Act.eval, Act.put]) (F2.out _ _ _) ?_)
 go_wp2_with (refine wpList_copy_run _ rfl _ _ 281 281 rfl _ _ rfl rfl (hcpB _ _) ?_)
 go_ret
 exact F1.out
theorem insRun_any (v : Value) (l : List Dc.Run) (x : Dc.Run) (i vb : Nat) (w : World) (hrow : RowIs 285 13 runCells v l w) (hvb : w.heap[vb]? = some (.cells (runCells x).toArray 285 (0, 0))) (hne : v.ownBlock ≠ some vb) (hbig : (l.length + 1) * 104 ≤ 140737488355328) (hi : i ≤ l.length) :
  Calls Tryz.prog 299 #[v, .int .i64 i, .slice (some ⟨vb, 0, none⟩) 1 1] w (InsPost 285 13 runCells v (Dc.insertAt l i x) w) := by
 rcases Nat.eq_or_lt_of_le hi with rfl | hlt
 ·exact insRun_end v l x vb w hrow hvb hne hbig
 ·rcases hrow.form with ⟨rfl, rfl⟩ | ⟨g, cap, cur, rfl, hg, hcap, _⟩
  ·simp at hlt
  ·rcases Nat.eq_or_lt_of_le hcap with e | hc
   ·subst e
    exact insRun_grow l x i vb g _ w hrow hlt hvb hbig rfl
   ·exact insRun_room l x i vb g cap w hrow hlt hvb (fun e => hne (by rw [e]; rfl)) hc
end Go.Proofs.YthfjefcljeamgaaGreatDoor
