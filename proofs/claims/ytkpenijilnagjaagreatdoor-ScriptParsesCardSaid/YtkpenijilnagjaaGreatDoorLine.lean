/- A line's words: add, numbers, block, where, each by its contract. -/
import Derived.Test.YtkpenijilnagjaaGreatDoorStamp
import Derived.Test.YtkpenijilnagjaaGreatDoorScrEv
import Derived.Lib.UnsafeStr
namespace Go.Proofs.YtkpenijilnagjaaGreatDoor
open Go.RowKit

abbrev strV (l : List UInt8) : Value := .string ⟨l.toArray⟩

/-- the block b is a line, its words ws lie in the row v -/
def LineIs (b : Nat) (v : Value) (ws : List (List UInt8)) (w : World) : Prop :=
  w.heap[b]? = some (.cells #[v] 147 (0, 0)) ∧ w.ownsRow (b + 1) 9 1 v ws.length (ws.map strV)

/-- what a line's method may turn: the line, and rows of strings behind it -/
def LS (b : Nat) (w : World) : Nat → Prop := fun k => k = b ∨ (b < k ∧ ∃ cur fr, w.heap[k]? = some (.cells cur 9 fr))

theorem Keeps.line {b : Nat} {w w1 w2 : World} (h : Keeps (LS b w) w w1) (h' : Keeps (LS b w1) w1 w2) : Keeps (LS b w) w w2 := by
  refine h.step h' fun k hk hlt => ?_
  rcases hk with rfl | ⟨hb, cur, fr, hc⟩
  · exact .inl rfl
  · by_cases hn : LS b w k
    · exact hn
    · exact .inr ⟨hb, cur, fr, (h.block k hlt hn).symm.trans hc⟩

theorem not_LS {b k : Nat} {w : World} {cs : Array Value} {T : TypeId} {fr : Nat × Nat} (h : w.heap[k]? = some (.cells cs T fr)) (hb : k ≠ b) (hT : T ≠ 9) : ¬ LS b w k := by
  rintro (rfl | ⟨_, cur, fr', hc⟩)
  · exact hb rfl
  · rw [h] at hc; simp only [Option.some.injEq, Obj.cells.injEq] at hc; exact hT hc.2.1

theorem LineIs.no {S : Nat → Prop} {b : Nat} {v : Value} {ws : List (List UInt8)} {w w' : World} (h : LineIs b v ws w) (k : Keeps S w w') (hS : ∀ j, S j → j < b) : LineIs b v ws w' :=
  ⟨k.heap h.1 (fun e => by have := hS b e; omega), k.owns (fun j e => by have := hS j e; omega) h.2⟩
theorem LineIs.alloc {b : Nat} {v : Value} {ws : List (List UInt8)} {w : World} (h : LineIs b v ws w) (o : Obj) : LineIs b v ws (w.alloc o) :=
  h.no (S := No) ((Keeps.refl _ _).alloc o) fun _ e => e.elim

theorem infoStr : (Tryz.prog.info? 9).map (fun i => (i.zero, i.size, i.bytes)) = some (some (.string ⟨#[]⟩), 1, 16) := by kernel_rfl

/-- how a line's method ends -/
def LinePost (b : Nat) (w : World) (ws : List (List UInt8)) (e : Ending) (w' : World) : Prop :=
  e = .returned (.tuple #[]) ∧ (∃ v, LineIs b v ws w') ∧ Keeps (LS b w) w w'

set_option maxRecDepth 100000 in
set_option maxHeartbeats 1000000 in
theorem add_any (b sb m c : Nat) (v : Value) (ws news : List (List UInt8)) (w : World) (h : LineIs b v ws w) (hm : news.length = m)
    (hc : ∀ j u, (news.map strV)[j]? = some u → w.cell? ⟨sb, j, none⟩ = some u) (hlen : ws.length + m ≤ 1000) :
    Calls Tryz.prog 74 #[.pointer (some ⟨b, 0, none⟩), .slice (some ⟨sb, 0, none⟩) m c] w (LinePost b w (ws ++ news)) := by
  obtain ⟨i0, hi, hz0, hz1, hz2⟩ := info_parts infoStr
  have hbk := h.1
  have c0 : w.cell? ⟨b, 0, none⟩ = some v := by rw [Lib.cell_of_heap hbk]; rfl
  have hown := h.2
  go_enter Tryz.func74, Tryz.ntmps74
  go_wp2_with (at_builtin; refine wpList_append_own _ rfl _ _ 81 rfl (b + 1) 9 i0 (.string ⟨#[]⟩) 1 16 Tryz.underlying81 hi hz0 hz1 hz2 rfl (by decide) _ _ _ rfl hown ⟨sb, 0, none⟩ m c (news.map strV) rfl ?c0 ?c1 ?c2 ?c3 ?c4 ?c5 ?_)
  case c0 => simp [hm]
  case c1 =>
    intro j u hj
    have hadd : (⟨sb, 0, none⟩ : Addr).add j = ⟨sb, j, none⟩ := by unfold Addr.add; split <;> simp_all
    rw [hadd]; exact hc j u hj
  case c2 => intro u hu; obtain ⟨x, _, rfl⟩ := List.mem_map.1 hu; rfl
  case c3 => unfold maxLen; omega
  case c4 => omega
  case c5 => have := heap_lt hbk; omega
  intro v' w2 hown' hg _
  have hlt := heap_lt hbk
  have hnb : some b ≠ v.ownBlock := fun e => by have := hown.lt b e.symm; omega
  have hb2 : w2.heap[b]? = some (.cells #[v] 147 (0, 0)) := (hg.block b hlt hnb).trans hbk
  have d0 := Lib.cell_of_heap hb2
  have f0 := Lib.frozen_of_heap hb2
  have hsl : ∃ ao n cap, v' = .slice ao n cap := by
    rcases hown'.2 with ⟨hv, _⟩ | ⟨g, cap, cur, hv, _⟩
    · exact ⟨_, _, _, hv⟩
    · exact ⟨_, _, _, hv⟩
  obtain ⟨ao, n, cap, rfl⟩ := hsl
  clear c0
  go_wp2
  go_end0
  refine ⟨rfl, ⟨.slice ao n cap, ?_, ?_⟩, ?_⟩
  · exact heap_set hb2 0 _
  · have := ownsRow_setCell_below (a := ⟨b, 0, none⟩) hown' (show b < b + 1 by omega) (.slice ao n cap)
    simpa [hm] using this
  · refine ⟨hg.os, hg.tape, hg.output, Nat.le_trans hg.size (by simp [World.setCell]), fun k hk hn => ?_⟩
    have hkb : k ≠ b := fun e => hn (.inl e)
    refine (Below.heap_setCell w2 ⟨b, 0, none⟩ _ k hkb).trans (hg.block k hk fun e => hn (.inr ⟨?_, ?_⟩))
    · have := (hown.lt k e.symm).1; omega
    · rcases hown.2 with ⟨rfl, _⟩ | ⟨g, cap', cur, rfl, _, hgg, _⟩
      · simp [Value.ownBlock] at e
      · simp [Value.ownBlock] at e; subst e; exact ⟨cur, _, hgg⟩

theorem one_cell (w : World) (x : List UInt8) : ∀ j u, ([x].map strV)[j]? = some u → (w.alloc (.cells #[strV x] 9)).cell? ⟨w.heap.size, j, none⟩ = some u := by
  intro j u hj
  match j, hj with
  | 0, hj =>
    simp at hj; subst hj
    rw [World.cell?_alloc_at _ _ _ _ rfl]; rfl

theorem LS_env {b : Nat} {w w' : World} (hE : Env w) (h10 : 10 ≤ b) (k : Keeps (LS b w) w w') : Env w' :=
  hE.keeps k fun j e => by rcases e with rfl | ⟨h, _⟩ <;> omega
theorem LS_alloc {b : Nat} {w w1 w' : World} (h : Keeps (LS b w) w w1) (o : Obj) (h' : Keeps (LS b (w1.alloc o)) (w1.alloc o) w') : Keeps (LS b w) w w' := by
  refine h.line (((Keeps.refl (LS b w1) w1).alloc o).step h' fun k hk hlt => ?_)
  rcases hk with rfl | ⟨hb, cur, fr, hc⟩
  · exact .inl rfl
  · exact .inr ⟨hb, cur, fr, (Below.heap_alloc w1 o k hlt).symm.trans hc⟩

set_option maxRecDepth 100000 in
set_option maxHeartbeats 1000000 in
theorem numbers_any (b sb : Nat) (v : Value) (ws : List (List UInt8)) (ns : List Int) (w : World) (hE : Env w) (h10 : 10 ≤ b) (h : LineIs b v ws w)
    (hsb : w.heap[sb]? = some (.cells (ns.map (Value.int .i64)).toArray 3 (0, 0))) (hne : sb ≠ b) (hns : ∀ n ∈ ns, Off.I64 n) (hlen : ws.length + ns.length ≤ 100) :
    Calls Tryz.prog 75 #[.pointer (some ⟨b, 0, none⟩), .slice (some ⟨sb, 0, none⟩) ns.length ns.length] w (LinePost b w (ws ++ ns.map Lib.itoa)) := by
  go_enter Tryz.func75, Tryz.ntmps75
  go_wp2
  go_loopw [8] (fun i wr => ∃ k : Nat, k ≤ ns.length ∧ i = .int .i64 k ∧ (∃ v, LineIs b v (ws ++ (ns.take k).map Lib.itoa) wr) ∧ Keeps (LS b w) w wr) (fun i _ => ns.length - (intOf i).toNat)
  case atStart => exact ⟨0, Nat.zero_le _, rfl, ⟨v, by simpa using h⟩, Keeps.refl _ _⟩
  case round =>
    obtain ⟨k, hk, rfl, ⟨v', hl⟩, kr⟩ := hrel
    by_cases hlt : k < ns.length
    · have hEr : Env wr := LS_env hE h10 kr
      have hsr := kr.heap hsb (not_LS hsb hne (by decide))
      have hcell : wr.cell? ⟨sb, k, none⟩ = some (.int .i64 ns[k]) := by rw [Lib.cell_of_heap hsr]; simp [hlt]
      have hI := hns ns[k] (List.getElem_mem hlt)
      have htk : (ns.take (k + 1)).map Lib.itoa = (ns.take k).map Lib.itoa ++ [Lib.itoa ns[k]] := by rw [List.take_succ_eq_append_getElem hlt, List.map_append]; rfl
      have HT := Lib.hid htk
      clear htk hsr
      generalize ns[k] = n at hcell hI HT
      go_wp2_with (first
        | (go_at_call 117; refine (lib_itoa n _ hEr hI).mono ?_; rintro e w2 ⟨rfl, k2⟩
           have hl2 := (hl.no k2 fun _ e => e.elim).alloc (.cells #[strV (Lib.itoa n)] 9))
        | (go_at_call 74; refine (add_any b w2.heap.size 1 1 v' _ [Lib.itoa n] _ hl2 rfl (one_cell w2 _) (by simp; omega)).mono ?_; rintro e w3 ⟨rfl, ⟨v3, hl3⟩, k3⟩))
      go_roundw
      case rel => exact ⟨k + 1, by omega, by go_num, ⟨v3, by rw [HT.out, ← List.append_assoc]; exact hl3⟩, LS_alloc (kr.trans k2.any) _ k3⟩
      case measure => simp [intOf]; omega
    · obtain rfl : k = ns.length := by omega
      go_wp2
      go_end0
      refine ⟨rfl, ⟨v', by simpa using hl⟩, kr⟩

set_option maxRecDepth 100000 in
set_option maxHeartbeats 1000000 in
theorem lineBlock_any (b : Nat) (v : Value) (ws : List (List UInt8)) (R N : Int) (w : World) (hE : Env w) (h : LineIs b v ws w) (h1 : Off.I64 R) (h2 : Off.I64 N) (hlen : ws.length ≤ 100) :
    Calls Tryz.prog 119 #[.pointer (some ⟨b, 0, none⟩), .agg #[.int .i64 R, .int .i64 N]] w (LinePost b w (ws ++ [Off.showId ⟨R, N⟩])) := by
  go_enter Tryz.func119, Tryz.ntmps119
  go_wp2_with (first
    | (go_at_call 162; refine (showId_any R N _ (hE.alloc _) h1 h2).mono ?_; rintro e w2 ⟨rfl, k2⟩
       have k2' : Keeps (LS b w) w w2 := ((Keeps.refl _ _).alloc _).trans k2.any
       have hl2 := ((h.alloc (.cells #[.int .i64 R, .int .i64 N] 34)).no k2 fun _ e => e.elim).alloc (.cells #[strV (Off.showId ⟨R, N⟩)] 9))
    | (go_at_call 74; refine (add_any b w2.heap.size 1 1 v _ [Off.showId ⟨R, N⟩] _ hl2 rfl (one_cell w2 _) (by omega)).mono ?_; rintro e w3 ⟨rfl, ⟨v3, hl3⟩, k3⟩))
  go_end0
  exact ⟨rfl, ⟨v3, hl3⟩, LS_alloc k2' _ k3⟩

set_option maxRecDepth 100000 in
set_option maxHeartbeats 1000000 in
theorem where_any (b : Nat) (v : Value) (ws : List (List UInt8)) (f : Bool) (w : World) (h : LineIs b v ws w) (hlen : ws.length ≤ 100) :
    Calls Tryz.prog 118 #[.pointer (some ⟨b, 0, none⟩), .bool f] w (LinePost b w (ws ++ [Off.whereW f])) := by
  cases f
  · have hl2 := h.alloc (.cells #[strV Off.sBehind] 9)
    have ca := add_any b w.heap.size 1 1 v _ [Off.sBehind] _ hl2 rfl (one_cell w _) (by omega)
    unfold strV Off.sBehind at ca
    go_enter Tryz.func118, Tryz.ntmps118
    go_wp2_with (go_at_call 74; refine ca.mono ?_; rintro e w3 ⟨rfl, ⟨v3, hl3⟩, k3⟩)
    go_end0
    exact ⟨rfl, ⟨v3, hl3⟩, LS_alloc (Keeps.refl _ _) _ k3⟩
  · have hl2 := h.alloc (.cells #[strV Off.sIn] 9)
    have ca := add_any b w.heap.size 1 1 v _ [Off.sIn] _ hl2 rfl (one_cell w _) (by omega)
    unfold strV Off.sIn at ca
    go_enter Tryz.func118, Tryz.ntmps118
    go_wp2_with (go_at_call 74; refine ca.mono ?_; rintro e w3 ⟨rfl, ⟨v3, hl3⟩, k3⟩)
    go_end0
    exact ⟨rfl, ⟨v3, hl3⟩, LS_alloc (Keeps.refl _ _) _ k3⟩

end Go.Proofs.YtkpenijilnagjaaGreatDoor
