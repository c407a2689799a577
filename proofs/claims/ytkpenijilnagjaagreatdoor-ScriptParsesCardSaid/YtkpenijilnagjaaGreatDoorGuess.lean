/- offshootref25.guess: the event that words may tell. -/
import Derived.Test.YtkpenijilnagjaaGreatDoorAsk
import Derived.Test.YtkpenijilnagjaaGreatDoorEvBase
namespace Go.Proofs.YtkpenijilnagjaaGreatDoor
open Go.RowKit

/-- how guess ends: what lies below base stays -/
def GuessPost (base : Nat) (ev : Off.Ev) (w : World) (e : Ending) (w' : World) : Prop := e = .returned (evV ev) ∧ Keeps (fun k => base ≤ k) w w'

theorem res_guess {w : World} {b : Nat} {v0 v1 v2 v3 v4 v5 v6 v7 v8 v9 v10 v11 v12 v13 : Value} {tmps : Array Value} (h : w.heap[b]? = some (.cells #[v0, v1, v2, v3, v4, v5, v6, v7, v8, v9, v10, v11, v12, v13] 79 (0, 0)))
    (ht : tmps[2]?.getD undef = .pointer (some ⟨b, 0, none⟩)) :
    (results Tryz.f37 tmps).run Tryz.prog w = .ok (.agg #[v0, v1, v2, v3, v4, v5, v6, v7, v8, v9, v10, v11, v12, v13]) w := by
  have c := Lib.cell_of_heap h
  simp [results, Tryz.results37, go_sem, ht, c]

/-- the same words, but for empty ones behind them -/
def SameWords (ws L : List (List UInt8)) : Prop := (∀ i, Off.gw L i = Off.gw ws i) ∧ ∀ x ∈ L, x.length ≤ 1000000
theorem SameWords.more {ws L : List (List UInt8)} (h : SameWords ws L) : SameWords ws (L ++ [[]]) := by
  refine ⟨fun i => ?_, fun x hx => ?_⟩
  · rw [← h.1 i]
    unfold Off.gw
    rw [List.getD_eq_getElem?_getD, List.getD_eq_getElem?_getD]
    rcases Nat.lt_or_ge i L.length with h1 | h1
    · rw [List.getElem?_append_left h1]
    · rw [List.getElem?_append_right h1, List.getElem?_eq_none h1]
      rcases Nat.eq_zero_or_pos (i - L.length) with h2 | h2
      · rw [h2]; rfl
      · rw [List.getElem?_eq_none (by simp; omega)]
  · rcases List.mem_append.1 hx with h1 | h1
    · exact h.2 x h1
    · simp at h1; rw [h1]; simp
theorem SameWords.at {ws L : List (List UInt8)} (h : SameWords ws L) {i : Nat} (hi : i < L.length) : L[i] = Off.gw ws i := by
  rw [← h.1 i]; unfold Off.gw; rw [List.getD_eq_getElem?_getD, List.getElem?_eq_getElem hi]; rfl
theorem SameWords.len {ws L : List (List UInt8)} (h : SameWords ws L) (i : Nat) : (Off.gw ws i).length ≤ 1000000 := by
  rw [← h.1 i]
  unfold Off.gw
  rw [List.getD_eq_getElem?_getD]
  rcases Nat.lt_or_ge i L.length with h1 | h1
  · rw [List.getElem?_eq_getElem h1]; exact h.2 _ (List.getElem_mem h1)
  · rw [List.getElem?_eq_none h1]; simp

theorem askW_at (ws : List (List UInt8)) : Off.askW (ws.drop 2) = Off.askW [Off.gw ws 2, Off.gw ws 3, Off.gw ws 4, Off.gw ws 5] := by
  have e : ∀ i, Off.gw (ws.drop 2) i = Off.gw ws (2 + i) := fun i => by
    unfold Off.gw
    rw [List.getD_eq_getElem?_getD, List.getD_eq_getElem?_getD, List.getElem?_drop]
  unfold Off.askW
  rw [e 0, e 1, e 2, e 3]
  rfl

def rowLen (v : Value) : Nat := match v with | .slice _ n _ => n | _ => 0

theorem guess_sync_eq {ws : List (List UInt8)} (h : Off.gw ws 0 = Off.sSync) : Off.guess ws = ⟨2, Off.value (Off.gw ws 1), 0, 0, false, .z⟩ := by
  unfold Off.guess
  rw [h]
  rfl

theorem guess_compact_eq {ws : List (List UInt8)} (h : Off.gw ws 0 = Off.sCompact) : Off.guess ws = ⟨8, Off.value (Off.gw ws 1), 0, 0, false, .z⟩ := by
  unfold Off.guess
  rw [h]
  rfl

theorem guess_start_eq {ws : List (List UInt8)} (h : Off.gw ws 0 = Off.sStart) : Off.guess ws = ⟨7, Off.value (Off.gw ws 1), 0, 0, false, .z⟩ := by
  unfold Off.guess
  rw [h]
  rfl

theorem guess_drop_eq {ws : List (List UInt8)} (h : Off.gw ws 0 = Off.sDrop) : Off.guess ws = ⟨5, Off.value (Off.gw ws 1), 0, 0, false, .z⟩ := by
  unfold Off.guess
  rw [h]
  rfl

theorem guess_crash_eq {ws : List (List UInt8)} (h : Off.gw ws 0 = Off.sCrash) : Off.guess ws = ⟨6, Off.value (Off.gw ws 1), 0, Off.value (Off.gw ws 2), false, .z⟩ := by
  unfold Off.guess
  rw [h]
  rfl

theorem guess_tell_eq {ws : List (List UInt8)} (h : Off.gw ws 0 = Off.sTell) : Off.guess ws = ⟨3, Off.value (Off.gw ws 1), Off.value (Off.gw ws 2), 0, false, .z⟩ := by
  unfold Off.guess
  rw [h]
  rfl

theorem guess_deliver_eq {ws : List (List UInt8)} (h : Off.gw ws 0 = Off.sDeliver) : Off.guess ws = ⟨4, Off.value (Off.gw ws 1), 0, 0, false, .z⟩ := by
  unfold Off.guess
  rw [h]
  rfl

theorem guess_copy_eq {ws : List (List UInt8)} (h : Off.gw ws 0 = Off.sCopy) : Off.guess ws = ⟨4, Off.value (Off.gw ws 1), 0, 0, true, .z⟩ := by
  unfold Off.guess
  rw [h]
  rfl

theorem guess_do_eq {ws : List (List UInt8)} (h : Off.gw ws 0 = Off.sDo) : Off.guess ws = ⟨1, Off.value (Off.gw ws 1), 0, 0, false, Off.askW (ws.drop 2)⟩ := by
  unfold Off.guess
  rw [h]
  rfl

theorem Keeps.fill14' {base : Nat} {w0 w : World} {b : Nat} (h : Keeps (fun k => base ≤ k) w0 w) (hb : base ≤ b) (v0 v1 v2 v3 v4 v5 v6 v7 v8 v9 v10 v11 v12 v13 : Value) : Keeps (fun k => base ≤ k) w0 ((((((((((((((w.setCell ⟨b, 0, none⟩ v0).setCell ⟨b, 1, none⟩ v1).setCell ⟨b, 2, none⟩ v2).setCell ⟨b, 3, none⟩ v3).setCell ⟨b, 4, none⟩ v4).setCell ⟨b, 5, none⟩ v5).setCell ⟨b, 6, none⟩ v6).setCell ⟨b, 7, none⟩ v7).setCell ⟨b, 8, none⟩ v8).setCell ⟨b, 9, none⟩ v9).setCell ⟨b, 10, none⟩ v10).setCell ⟨b, 11, none⟩ v11).setCell ⟨b, 12, none⟩ v12).setCell ⟨b, 13, none⟩ v13) := by
  have s : ∀ {W : World} (j : Nat) (v : Value), Keeps (fun k => base ≤ k) w0 W → Keeps (fun k => base ≤ k) w0 (W.setCell ⟨b, j, none⟩ v) := fun {W} j v hh => hh.setCell (fun _ => hb) v
  exact s _ _ (s _ _ (s _ _ (s _ _ (s _ _ (s _ _ (s _ _ (s _ _ (s _ _ (s _ _ (s _ _ (s _ _ (s _ _ (s _ _ h)))))))))))))

set_option maxRecDepth 100000 in
set_option maxHeartbeats 4000000 in
theorem guess_sync (v : Value) (base : Nat) (ws : List (List UInt8)) (w : World) (hE : Env w) (h10 : 10 ≤ base) (hown : w.ownsRow base 9 1 v ws.length (ws.map strV)) (h0 : 0 < ws.length)
    (hl : ∀ x ∈ ws, x.length ≤ 1000000) (hw : Off.gw ws 0 = Off.sSync) :
    Calls Tryz.prog 37 #[v] w (GuessPost base (Off.guess ws) w) := by
  obtain ⟨i0, hi, hz0, hz1, hz2⟩ := info_parts infoStr
  have kw : Keeps (fun k => base ≤ k) w (w.alloc (.cells #[.int .i64 0, .int .i64 0, .int .i64 0, .int .i64 0, .bool false, .int .i64 0, .int .i64 0, .int .i64 0, .int .i64 0, .int .i64 0, .string ⟨#[]⟩, .bool false, .int .i64 0, .int .i64 0] 79)) := (Keeps.refl _ _).alloc _
  have hown1 : (w.alloc (.cells #[.int .i64 0, .int .i64 0, .int .i64 0, .int .i64 0, .bool false, .int .i64 0, .int .i64 0, .int .i64 0, .int .i64 0, .int .i64 0, .string ⟨#[]⟩, .bool false, .int .i64 0, .int .i64 0] 79)).ownsRow base 9 1 v ws.length (ws.map strV) := hown.alloc _
  have hb1 : (w.alloc (.cells #[.int .i64 0, .int .i64 0, .int .i64 0, .int .i64 0, .bool false, .int .i64 0, .int .i64 0, .int .i64 0, .int .i64 0, .int .i64 0, .string ⟨#[]⟩, .bool false, .int .i64 0, .int .i64 0] 79)).heap[w.heap.size]? = some (.cells #[.int .i64 0, .int .i64 0, .int .i64 0, .int .i64 0, .bool false, .int .i64 0, .int .i64 0, .int .i64 0, .int .i64 0, .int .i64 0, .string ⟨#[]⟩, .bool false, .int .i64 0, .int .i64 0] 79 (0, 0)) := heap_alloc_new w _
  have hsw : Hid (SameWords ws ws) := ⟨fun _ => rfl, hl⟩
  have hbw : base ≤ w.heap.size := by
    obtain ⟨g, cap, rfl⟩ := Joins.ownsRow_form hown h0
    have := hown.lt g rfl; omega
  clear hown
  go_enter Tryz.func37, Tryz.ntmps37
  go_wp2
  generalize w.alloc (.cells #[.int .i64 0, .int .i64 0, .int .i64 0, .int .i64 0, .bool false, .int .i64 0, .int .i64 0, .int .i64 0, .int .i64 0, .int .i64 0, .string ⟨#[]⟩, .bool false, .int .i64 0, .int .i64 0] 79) = w1 at kw hown1 hb1 ⊢
  go_loopw [0] (fun u wr => ∃ L : List (List UInt8), 0 < L.length ∧ wr.ownsRow base 9 1 u L.length (L.map strV) ∧ wr.heap[w.heap.size]? = some (.cells #[.int .i64 0, .int .i64 0, .int .i64 0, .int .i64 0, .bool false, .int .i64 0, .int .i64 0, .int .i64 0, .int .i64 0, .int .i64 0, .string ⟨#[]⟩, .bool false, .int .i64 0, .int .i64 0] 79 (0, 0)) ∧ Keeps (fun k => base ≤ k) w wr ∧ Hid (SameWords ws L)) (fun u _ => 7 - rowLen u)
  case atStart => exact ⟨ws, h0, hown1, hb1, kw, hsw⟩
  case round =>
    clear hown1 hb1 kw hsw
    obtain ⟨L, hL, hown, hb, kr, hS⟩ := hrel
    obtain ⟨g, cap, rfl⟩ := Joins.ownsRow_form hown hL
    obtain ⟨hbg, hgs⟩ := hown.lt g rfl
    by_cases h7 : L.length < 7
    · have h7i : (L.length : Int) < 7 := by omega
      have hgne : w.heap.size ≠ g := by
        rintro rfl
        rcases hown.2 with ⟨h, _⟩ | ⟨g', cap', cur, h, _, hgg, _⟩
        · cases h
        · simp only [Value.slice.injEq, Option.some.injEq, Addr.mk.injEq, and_true, true_and] at h
          rw [← h.1, hb] at hgg
          simp at hgg
      go_wp2_with (at_builtin; refine wpList_append_own _ rfl _ _ 81 rfl base 9 i0 (.string ⟨#[]⟩) 1 16 Tryz.underlying81 hi hz0 hz1 hz2 rfl (by decide) _ _ _ rfl (hown.alloc _) _ 1 1 [strV []] rfl rfl (cells1 _ _) ?c2 ?c3 ?c4 ?c5 ?_)
      case c2 => intro u hu; simp at hu; subst hu; rfl
      case c3 => unfold maxLen; omega
      case c4 => omega
      case c5 => simp; omega
      intro v' w2 hown' hg _
      have kg : Keeps (fun k => base ≤ k) w w2 := Keeps.trans (kr.alloc _) ⟨hg.os, hg.tape, hg.output, hg.size, fun k hk hn => hg.block k hk (fun e => hn (by have e' : some k = some g := e; injection e' with e'; omega))⟩
      have hb2 : w2.heap[w.heap.size]? = some (.cells #[.int .i64 0, .int .i64 0, .int .i64 0, .int .i64 0, .bool false, .int .i64 0, .int .i64 0, .int .i64 0, .int .i64 0, .int .i64 0, .string ⟨#[]⟩, .bool false, .int .i64 0, .int .i64 0] 79 (0, 0)) := (hg.block _ (by have := heap_lt hb; simp; omega) (fun e => hgne (by have e' : some w.heap.size = some g := e; injection e'))).trans (heap_alloc_keep hb _)
      have ho : w2.ownsRow base 9 1 v' (L ++ [[]]).length ((L ++ [[]]).map strV) := by
        have he : (L ++ [[]]).map strV = L.map strV ++ [strV []] := by simp
        rw [List.length_append, List.length_singleton, he]
        exact hown'
      have hS2 : Hid (SameWords ws (L ++ [[]])) := hS.out.more
      obtain ⟨g2, cap2, rfl⟩ := Joins.ownsRow_form ho (by simp)
      go_wp2
      go_roundw
      case rel => exact ⟨L ++ [[]], by simp, ho, hb2, kg, hS2⟩
      case measure => simp [rowLen]; omega
    · have h7i : ¬ (L.length : Int) < 7 := by omega
      have hcell : ∀ j, j < 7 → wr.cell? ⟨g, j, none⟩ = some (strV (Off.gw ws j)) := fun j hj => by
        rw [hown.cellAt j (by omega), List.getElem?_map, List.getElem?_eq_getElem (by omega : j < L.length), hS.out.at (by omega)]; rfl
      have C0 := hcell 0 (by omega)
      have C1 := hcell 1 (by omega)
      have C2 := hcell 2 (by omega)
      have C3 := hcell 3 (by omega)
      have C4 := hcell 4 (by omega)
      have C5 := hcell 5 (by omega)
      have L1 := hS.out.len 1
      have L2 := hS.out.len 2
      have L3 := hS.out.len 3
      have L4 := hS.out.len 4
      have L5 := hS.out.len 5
      have V := fun s w1 (h : s.length ≤ 1000000) => refValue_same s w1 h
      have n0 : 0 < L.length := hL
      have n1 : (1 : Int) < (L.length : Int) := by omega
      have n2 : (2 : Int) < (L.length : Int) := by omega
      have n3 : (2 : Int) ≤ (L.length : Int) := by omega
      have hb0 := Lib.cell_of_heap hb
      have hf0 := Lib.frozen_of_heap hb
      have hlt0 := heap_lt hb
      have ne0 : w.heap.size ≠ wr.heap.size := by omega
      have ne1 : ¬ wr.heap.size = w.heap.size := by omega
      have ne2 : ¬ g = wr.heap.size := by omega
      have hE1 : Env wr := hE.keeps kr fun k hk => Nat.le_trans h10 hk
      clear hS hcell hl h0
      rw [hw] at C0
      unfold Off.sSync at C0
      have Hw := Lib.hid hw
      clear hw
      obtain ⟨y1, hy1⟩ : ∃ y, Off.gw ws 1 = y := ⟨_, rfl⟩
      rw [hy1] at C1 L1
      have Hy1 := Lib.hid hy1
      clear hy1
      obtain ⟨y2, hy2⟩ : ∃ y, Off.gw ws 2 = y := ⟨_, rfl⟩
      rw [hy2] at C2 L2
      have Hy2 := Lib.hid hy2
      clear hy2
      obtain ⟨y3, hy3⟩ : ∃ y, Off.gw ws 3 = y := ⟨_, rfl⟩
      rw [hy3] at C3 L3
      have Hy3 := Lib.hid hy3
      clear hy3
      obtain ⟨y4, hy4⟩ : ∃ y, Off.gw ws 4 = y := ⟨_, rfl⟩
      rw [hy4] at C4 L4
      have Hy4 := Lib.hid hy4
      clear hy4
      obtain ⟨y5, hy5⟩ : ∃ y, Off.gw ws 5 = y := ⟨_, rfl⟩
      rw [hy5] at C5 L5
      have Hy5 := Lib.hid hy5
      clear hy5
      go_wp2_with (go_at_call 69; refine (V _ _ (by assumption)).mono ?_; rintro e w8 ⟨rfl, rfl⟩)
      have v9 := heap_alloc_keep (heap_fill14 hb (.int .i64 2) (.int .i64 (Off.value y1)) (.int .i64 0) (.int .i64 0) (.bool false) (.int .i64 0) (.int .i64 0) (.int .i64 0) (.int .i64 0) (.int .i64 0) (.string ⟨#[]⟩) (.bool false) (.int .i64 0) (.int .i64 0)) (.cells #[.int .i64 2, .int .i64 (Off.value y1), .int .i64 0, .int .i64 0, .bool false, .int .i64 0, .int .i64 0, .int .i64 0, .int .i64 0, .int .i64 0, .string ⟨#[]⟩, .bool false, .int .i64 0, .int .i64 0] 79)
      refine bodyPost_ret (res_guess v9 rfl) rfl ⟨?_, (Keeps.fill14' kr hbw _ _ _ _ _ _ _ _ _ _ _ _ _ _).alloc _⟩
      rw [guess_sync_eq Hw.out, Hy1.out]
      first | done | rfl

set_option maxRecDepth 100000 in
set_option maxHeartbeats 4000000 in
theorem guess_compact (v : Value) (base : Nat) (ws : List (List UInt8)) (w : World) (hE : Env w) (h10 : 10 ≤ base) (hown : w.ownsRow base 9 1 v ws.length (ws.map strV)) (h0 : 0 < ws.length)
    (hl : ∀ x ∈ ws, x.length ≤ 1000000) (hw : Off.gw ws 0 = Off.sCompact) :
    Calls Tryz.prog 37 #[v] w (GuessPost base (Off.guess ws) w) := by
  obtain ⟨i0, hi, hz0, hz1, hz2⟩ := info_parts infoStr
  have kw : Keeps (fun k => base ≤ k) w (w.alloc (.cells #[.int .i64 0, .int .i64 0, .int .i64 0, .int .i64 0, .bool false, .int .i64 0, .int .i64 0, .int .i64 0, .int .i64 0, .int .i64 0, .string ⟨#[]⟩, .bool false, .int .i64 0, .int .i64 0] 79)) := (Keeps.refl _ _).alloc _
  have hown1 : (w.alloc (.cells #[.int .i64 0, .int .i64 0, .int .i64 0, .int .i64 0, .bool false, .int .i64 0, .int .i64 0, .int .i64 0, .int .i64 0, .int .i64 0, .string ⟨#[]⟩, .bool false, .int .i64 0, .int .i64 0] 79)).ownsRow base 9 1 v ws.length (ws.map strV) := hown.alloc _
  have hb1 : (w.alloc (.cells #[.int .i64 0, .int .i64 0, .int .i64 0, .int .i64 0, .bool false, .int .i64 0, .int .i64 0, .int .i64 0, .int .i64 0, .int .i64 0, .string ⟨#[]⟩, .bool false, .int .i64 0, .int .i64 0] 79)).heap[w.heap.size]? = some (.cells #[.int .i64 0, .int .i64 0, .int .i64 0, .int .i64 0, .bool false, .int .i64 0, .int .i64 0, .int .i64 0, .int .i64 0, .int .i64 0, .string ⟨#[]⟩, .bool false, .int .i64 0, .int .i64 0] 79 (0, 0)) := heap_alloc_new w _
  have hsw : Hid (SameWords ws ws) := ⟨fun _ => rfl, hl⟩
  have hbw : base ≤ w.heap.size := by
    obtain ⟨g, cap, rfl⟩ := Joins.ownsRow_form hown h0
    have := hown.lt g rfl; omega
  clear hown
  go_enter Tryz.func37, Tryz.ntmps37
  go_wp2
  generalize w.alloc (.cells #[.int .i64 0, .int .i64 0, .int .i64 0, .int .i64 0, .bool false, .int .i64 0, .int .i64 0, .int .i64 0, .int .i64 0, .int .i64 0, .string ⟨#[]⟩, .bool false, .int .i64 0, .int .i64 0] 79) = w1 at kw hown1 hb1 ⊢
  go_loopw [0] (fun u wr => ∃ L : List (List UInt8), 0 < L.length ∧ wr.ownsRow base 9 1 u L.length (L.map strV) ∧ wr.heap[w.heap.size]? = some (.cells #[.int .i64 0, .int .i64 0, .int .i64 0, .int .i64 0, .bool false, .int .i64 0, .int .i64 0, .int .i64 0, .int .i64 0, .int .i64 0, .string ⟨#[]⟩, .bool false, .int .i64 0, .int .i64 0] 79 (0, 0)) ∧ Keeps (fun k => base ≤ k) w wr ∧ Hid (SameWords ws L)) (fun u _ => 7 - rowLen u)
  case atStart => exact ⟨ws, h0, hown1, hb1, kw, hsw⟩
  case round =>
    clear hown1 hb1 kw hsw
    obtain ⟨L, hL, hown, hb, kr, hS⟩ := hrel
    obtain ⟨g, cap, rfl⟩ := Joins.ownsRow_form hown hL
    obtain ⟨hbg, hgs⟩ := hown.lt g rfl
    by_cases h7 : L.length < 7
    · have h7i : (L.length : Int) < 7 := by omega
      have hgne : w.heap.size ≠ g := by
        rintro rfl
        rcases hown.2 with ⟨h, _⟩ | ⟨g', cap', cur, h, _, hgg, _⟩
        · cases h
        · simp only [Value.slice.injEq, Option.some.injEq, Addr.mk.injEq, and_true, true_and] at h
          rw [← h.1, hb] at hgg
          simp at hgg
      go_wp2_with (at_builtin; refine wpList_append_own _ rfl _ _ 81 rfl base 9 i0 (.string ⟨#[]⟩) 1 16 Tryz.underlying81 hi hz0 hz1 hz2 rfl (by decide) _ _ _ rfl (hown.alloc _) _ 1 1 [strV []] rfl rfl (cells1 _ _) ?c2 ?c3 ?c4 ?c5 ?_)
      case c2 => intro u hu; simp at hu; subst hu; rfl
      case c3 => unfold maxLen; omega
      case c4 => omega
      case c5 => simp; omega
      intro v' w2 hown' hg _
      have kg : Keeps (fun k => base ≤ k) w w2 := Keeps.trans (kr.alloc _) ⟨hg.os, hg.tape, hg.output, hg.size, fun k hk hn => hg.block k hk (fun e => hn (by have e' : some k = some g := e; injection e' with e'; omega))⟩
      have hb2 : w2.heap[w.heap.size]? = some (.cells #[.int .i64 0, .int .i64 0, .int .i64 0, .int .i64 0, .bool false, .int .i64 0, .int .i64 0, .int .i64 0, .int .i64 0, .int .i64 0, .string ⟨#[]⟩, .bool false, .int .i64 0, .int .i64 0] 79 (0, 0)) := (hg.block _ (by have := heap_lt hb; simp; omega) (fun e => hgne (by have e' : some w.heap.size = some g := e; injection e'))).trans (heap_alloc_keep hb _)
      have ho : w2.ownsRow base 9 1 v' (L ++ [[]]).length ((L ++ [[]]).map strV) := by
        have he : (L ++ [[]]).map strV = L.map strV ++ [strV []] := by simp
        rw [List.length_append, List.length_singleton, he]
        exact hown'
      have hS2 : Hid (SameWords ws (L ++ [[]])) := hS.out.more
      obtain ⟨g2, cap2, rfl⟩ := Joins.ownsRow_form ho (by simp)
      go_wp2
      go_roundw
      case rel => exact ⟨L ++ [[]], by simp, ho, hb2, kg, hS2⟩
      case measure => simp [rowLen]; omega
    · have h7i : ¬ (L.length : Int) < 7 := by omega
      have hcell : ∀ j, j < 7 → wr.cell? ⟨g, j, none⟩ = some (strV (Off.gw ws j)) := fun j hj => by
        rw [hown.cellAt j (by omega), List.getElem?_map, List.getElem?_eq_getElem (by omega : j < L.length), hS.out.at (by omega)]; rfl
      have C0 := hcell 0 (by omega)
      have C1 := hcell 1 (by omega)
      have C2 := hcell 2 (by omega)
      have C3 := hcell 3 (by omega)
      have C4 := hcell 4 (by omega)
      have C5 := hcell 5 (by omega)
      have L1 := hS.out.len 1
      have L2 := hS.out.len 2
      have L3 := hS.out.len 3
      have L4 := hS.out.len 4
      have L5 := hS.out.len 5
      have V := fun s w1 (h : s.length ≤ 1000000) => refValue_same s w1 h
      have n0 : 0 < L.length := hL
      have n1 : (1 : Int) < (L.length : Int) := by omega
      have n2 : (2 : Int) < (L.length : Int) := by omega
      have n3 : (2 : Int) ≤ (L.length : Int) := by omega
      have hb0 := Lib.cell_of_heap hb
      have hf0 := Lib.frozen_of_heap hb
      have hlt0 := heap_lt hb
      have ne0 : w.heap.size ≠ wr.heap.size := by omega
      have ne1 : ¬ wr.heap.size = w.heap.size := by omega
      have ne2 : ¬ g = wr.heap.size := by omega
      have hE1 : Env wr := hE.keeps kr fun k hk => Nat.le_trans h10 hk
      clear hS hcell hl h0
      rw [hw] at C0
      unfold Off.sCompact at C0
      have Hw := Lib.hid hw
      clear hw
      obtain ⟨y1, hy1⟩ : ∃ y, Off.gw ws 1 = y := ⟨_, rfl⟩
      rw [hy1] at C1 L1
      have Hy1 := Lib.hid hy1
      clear hy1
      obtain ⟨y2, hy2⟩ : ∃ y, Off.gw ws 2 = y := ⟨_, rfl⟩
      rw [hy2] at C2 L2
      have Hy2 := Lib.hid hy2
      clear hy2
      obtain ⟨y3, hy3⟩ : ∃ y, Off.gw ws 3 = y := ⟨_, rfl⟩
      rw [hy3] at C3 L3
      have Hy3 := Lib.hid hy3
      clear hy3
      obtain ⟨y4, hy4⟩ : ∃ y, Off.gw ws 4 = y := ⟨_, rfl⟩
      rw [hy4] at C4 L4
      have Hy4 := Lib.hid hy4
      clear hy4
      obtain ⟨y5, hy5⟩ : ∃ y, Off.gw ws 5 = y := ⟨_, rfl⟩
      rw [hy5] at C5 L5
      have Hy5 := Lib.hid hy5
      clear hy5
      go_wp2_with (go_at_call 69; refine (V _ _ (by assumption)).mono ?_; rintro e w8 ⟨rfl, rfl⟩)
      have v9 := heap_alloc_keep (heap_fill14 hb (.int .i64 8) (.int .i64 (Off.value y1)) (.int .i64 0) (.int .i64 0) (.bool false) (.int .i64 0) (.int .i64 0) (.int .i64 0) (.int .i64 0) (.int .i64 0) (.string ⟨#[]⟩) (.bool false) (.int .i64 0) (.int .i64 0)) (.cells #[.int .i64 8, .int .i64 (Off.value y1), .int .i64 0, .int .i64 0, .bool false, .int .i64 0, .int .i64 0, .int .i64 0, .int .i64 0, .int .i64 0, .string ⟨#[]⟩, .bool false, .int .i64 0, .int .i64 0] 79)
      refine bodyPost_ret (res_guess v9 rfl) rfl ⟨?_, (Keeps.fill14' kr hbw _ _ _ _ _ _ _ _ _ _ _ _ _ _).alloc _⟩
      rw [guess_compact_eq Hw.out, Hy1.out]
      first | done | rfl

set_option maxRecDepth 100000 in
set_option maxHeartbeats 4000000 in
theorem guess_start (v : Value) (base : Nat) (ws : List (List UInt8)) (w : World) (hE : Env w) (h10 : 10 ≤ base) (hown : w.ownsRow base 9 1 v ws.length (ws.map strV)) (h0 : 0 < ws.length)
    (hl : ∀ x ∈ ws, x.length ≤ 1000000) (hw : Off.gw ws 0 = Off.sStart) :
    Calls Tryz.prog 37 #[v] w (GuessPost base (Off.guess ws) w) := by
  obtain ⟨i0, hi, hz0, hz1, hz2⟩ := info_parts infoStr
  have kw : Keeps (fun k => base ≤ k) w (w.alloc (.cells #[.int .i64 0, .int .i64 0, .int .i64 0, .int .i64 0, .bool false, .int .i64 0, .int .i64 0, .int .i64 0, .int .i64 0, .int .i64 0, .string ⟨#[]⟩, .bool false, .int .i64 0, .int .i64 0] 79)) := (Keeps.refl _ _).alloc _
  have hown1 : (w.alloc (.cells #[.int .i64 0, .int .i64 0, .int .i64 0, .int .i64 0, .bool false, .int .i64 0, .int .i64 0, .int .i64 0, .int .i64 0, .int .i64 0, .string ⟨#[]⟩, .bool false, .int .i64 0, .int .i64 0] 79)).ownsRow base 9 1 v ws.length (ws.map strV) := hown.alloc _
  have hb1 : (w.alloc (.cells #[.int .i64 0, .int .i64 0, .int .i64 0, .int .i64 0, .bool false, .int .i64 0, .int .i64 0, .int .i64 0, .int .i64 0, .int .i64 0, .string ⟨#[]⟩, .bool false, .int .i64 0, .int .i64 0] 79)).heap[w.heap.size]? = some (.cells #[.int .i64 0, .int .i64 0, .int .i64 0, .int .i64 0, .bool false, .int .i64 0, .int .i64 0, .int .i64 0, .int .i64 0, .int .i64 0, .string ⟨#[]⟩, .bool false, .int .i64 0, .int .i64 0] 79 (0, 0)) := heap_alloc_new w _
  have hsw : Hid (SameWords ws ws) := ⟨fun _ => rfl, hl⟩
  have hbw : base ≤ w.heap.size := by
    obtain ⟨g, cap, rfl⟩ := Joins.ownsRow_form hown h0
    have := hown.lt g rfl; omega
  clear hown
  go_enter Tryz.func37, Tryz.ntmps37
  go_wp2
  generalize w.alloc (.cells #[.int .i64 0, .int .i64 0, .int .i64 0, .int .i64 0, .bool false, .int .i64 0, .int .i64 0, .int .i64 0, .int .i64 0, .int .i64 0, .string ⟨#[]⟩, .bool false, .int .i64 0, .int .i64 0] 79) = w1 at kw hown1 hb1 ⊢
  go_loopw [0] (fun u wr => ∃ L : List (List UInt8), 0 < L.length ∧ wr.ownsRow base 9 1 u L.length (L.map strV) ∧ wr.heap[w.heap.size]? = some (.cells #[.int .i64 0, .int .i64 0, .int .i64 0, .int .i64 0, .bool false, .int .i64 0, .int .i64 0, .int .i64 0, .int .i64 0, .int .i64 0, .string ⟨#[]⟩, .bool false, .int .i64 0, .int .i64 0] 79 (0, 0)) ∧ Keeps (fun k => base ≤ k) w wr ∧ Hid (SameWords ws L)) (fun u _ => 7 - rowLen u)
  case atStart => exact ⟨ws, h0, hown1, hb1, kw, hsw⟩
  case round =>
    clear hown1 hb1 kw hsw
    obtain ⟨L, hL, hown, hb, kr, hS⟩ := hrel
    obtain ⟨g, cap, rfl⟩ := Joins.ownsRow_form hown hL
    obtain ⟨hbg, hgs⟩ := hown.lt g rfl
    by_cases h7 : L.length < 7
    · have h7i : (L.length : Int) < 7 := by omega
      have hgne : w.heap.size ≠ g := by
        rintro rfl
        rcases hown.2 with ⟨h, _⟩ | ⟨g', cap', cur, h, _, hgg, _⟩
        · cases h
        · simp only [Value.slice.injEq, Option.some.injEq, Addr.mk.injEq, and_true, true_and] at h
          rw [← h.1, hb] at hgg
          simp at hgg
      go_wp2_with (at_builtin; refine wpList_append_own _ rfl _ _ 81 rfl base 9 i0 (.string ⟨#[]⟩) 1 16 Tryz.underlying81 hi hz0 hz1 hz2 rfl (by decide) _ _ _ rfl (hown.alloc _) _ 1 1 [strV []] rfl rfl (cells1 _ _) ?c2 ?c3 ?c4 ?c5 ?_)
      case c2 => intro u hu; simp at hu; subst hu; rfl
      case c3 => unfold maxLen; omega
      case c4 => omega
      case c5 => simp; omega
      intro v' w2 hown' hg _
      have kg : Keeps (fun k => base ≤ k) w w2 := Keeps.trans (kr.alloc _) ⟨hg.os, hg.tape, hg.output, hg.size, fun k hk hn => hg.block k hk (fun e => hn (by have e' : some k = some g := e; injection e' with e'; omega))⟩
      have hb2 : w2.heap[w.heap.size]? = some (.cells #[.int .i64 0, .int .i64 0, .int .i64 0, .int .i64 0, .bool false, .int .i64 0, .int .i64 0, .int .i64 0, .int .i64 0, .int .i64 0, .string ⟨#[]⟩, .bool false, .int .i64 0, .int .i64 0] 79 (0, 0)) := (hg.block _ (by have := heap_lt hb; simp; omega) (fun e => hgne (by have e' : some w.heap.size = some g := e; injection e'))).trans (heap_alloc_keep hb _)
      have ho : w2.ownsRow base 9 1 v' (L ++ [[]]).length ((L ++ [[]]).map strV) := by
        have he : (L ++ [[]]).map strV = L.map strV ++ [strV []] := by simp
        rw [List.length_append, List.length_singleton, he]
        exact hown'
      have hS2 : Hid (SameWords ws (L ++ [[]])) := hS.out.more
      obtain ⟨g2, cap2, rfl⟩ := Joins.ownsRow_form ho (by simp)
      go_wp2
      go_roundw
      case rel => exact ⟨L ++ [[]], by simp, ho, hb2, kg, hS2⟩
      case measure => simp [rowLen]; omega
    · have h7i : ¬ (L.length : Int) < 7 := by omega
      have hcell : ∀ j, j < 7 → wr.cell? ⟨g, j, none⟩ = some (strV (Off.gw ws j)) := fun j hj => by
        rw [hown.cellAt j (by omega), List.getElem?_map, List.getElem?_eq_getElem (by omega : j < L.length), hS.out.at (by omega)]; rfl
      have C0 := hcell 0 (by omega)
      have C1 := hcell 1 (by omega)
      have C2 := hcell 2 (by omega)
      have C3 := hcell 3 (by omega)
      have C4 := hcell 4 (by omega)
      have C5 := hcell 5 (by omega)
      have L1 := hS.out.len 1
      have L2 := hS.out.len 2
      have L3 := hS.out.len 3
      have L4 := hS.out.len 4
      have L5 := hS.out.len 5
      have V := fun s w1 (h : s.length ≤ 1000000) => refValue_same s w1 h
      have n0 : 0 < L.length := hL
      have n1 : (1 : Int) < (L.length : Int) := by omega
      have n2 : (2 : Int) < (L.length : Int) := by omega
      have n3 : (2 : Int) ≤ (L.length : Int) := by omega
      have hb0 := Lib.cell_of_heap hb
      have hf0 := Lib.frozen_of_heap hb
      have hlt0 := heap_lt hb
      have ne0 : w.heap.size ≠ wr.heap.size := by omega
      have ne1 : ¬ wr.heap.size = w.heap.size := by omega
      have ne2 : ¬ g = wr.heap.size := by omega
      have hE1 : Env wr := hE.keeps kr fun k hk => Nat.le_trans h10 hk
      clear hS hcell hl h0
      rw [hw] at C0
      unfold Off.sStart at C0
      have Hw := Lib.hid hw
      clear hw
      obtain ⟨y1, hy1⟩ : ∃ y, Off.gw ws 1 = y := ⟨_, rfl⟩
      rw [hy1] at C1 L1
      have Hy1 := Lib.hid hy1
      clear hy1
      obtain ⟨y2, hy2⟩ : ∃ y, Off.gw ws 2 = y := ⟨_, rfl⟩
      rw [hy2] at C2 L2
      have Hy2 := Lib.hid hy2
      clear hy2
      obtain ⟨y3, hy3⟩ : ∃ y, Off.gw ws 3 = y := ⟨_, rfl⟩
      rw [hy3] at C3 L3
      have Hy3 := Lib.hid hy3
      clear hy3
      obtain ⟨y4, hy4⟩ : ∃ y, Off.gw ws 4 = y := ⟨_, rfl⟩
      rw [hy4] at C4 L4
      have Hy4 := Lib.hid hy4
      clear hy4
      obtain ⟨y5, hy5⟩ : ∃ y, Off.gw ws 5 = y := ⟨_, rfl⟩
      rw [hy5] at C5 L5
      have Hy5 := Lib.hid hy5
      clear hy5
      go_wp2_with (go_at_call 69; refine (V _ _ (by assumption)).mono ?_; rintro e w8 ⟨rfl, rfl⟩)
      have v9 := heap_alloc_keep (heap_fill14 hb (.int .i64 7) (.int .i64 (Off.value y1)) (.int .i64 0) (.int .i64 0) (.bool false) (.int .i64 0) (.int .i64 0) (.int .i64 0) (.int .i64 0) (.int .i64 0) (.string ⟨#[]⟩) (.bool false) (.int .i64 0) (.int .i64 0)) (.cells #[.int .i64 7, .int .i64 (Off.value y1), .int .i64 0, .int .i64 0, .bool false, .int .i64 0, .int .i64 0, .int .i64 0, .int .i64 0, .int .i64 0, .string ⟨#[]⟩, .bool false, .int .i64 0, .int .i64 0] 79)
      refine bodyPost_ret (res_guess v9 rfl) rfl ⟨?_, (Keeps.fill14' kr hbw _ _ _ _ _ _ _ _ _ _ _ _ _ _).alloc _⟩
      rw [guess_start_eq Hw.out, Hy1.out]
      first | done | rfl

set_option maxRecDepth 100000 in
set_option maxHeartbeats 4000000 in
theorem guess_drop (v : Value) (base : Nat) (ws : List (List UInt8)) (w : World) (hE : Env w) (h10 : 10 ≤ base) (hown : w.ownsRow base 9 1 v ws.length (ws.map strV)) (h0 : 0 < ws.length)
    (hl : ∀ x ∈ ws, x.length ≤ 1000000) (hw : Off.gw ws 0 = Off.sDrop) :
    Calls Tryz.prog 37 #[v] w (GuessPost base (Off.guess ws) w) := by
  obtain ⟨i0, hi, hz0, hz1, hz2⟩ := info_parts infoStr
  have kw : Keeps (fun k => base ≤ k) w (w.alloc (.cells #[.int .i64 0, .int .i64 0, .int .i64 0, .int .i64 0, .bool false, .int .i64 0, .int .i64 0, .int .i64 0, .int .i64 0, .int .i64 0, .string ⟨#[]⟩, .bool false, .int .i64 0, .int .i64 0] 79)) := (Keeps.refl _ _).alloc _
  have hown1 : (w.alloc (.cells #[.int .i64 0, .int .i64 0, .int .i64 0, .int .i64 0, .bool false, .int .i64 0, .int .i64 0, .int .i64 0, .int .i64 0, .int .i64 0, .string ⟨#[]⟩, .bool false, .int .i64 0, .int .i64 0] 79)).ownsRow base 9 1 v ws.length (ws.map strV) := hown.alloc _
  have hb1 : (w.alloc (.cells #[.int .i64 0, .int .i64 0, .int .i64 0, .int .i64 0, .bool false, .int .i64 0, .int .i64 0, .int .i64 0, .int .i64 0, .int .i64 0, .string ⟨#[]⟩, .bool false, .int .i64 0, .int .i64 0] 79)).heap[w.heap.size]? = some (.cells #[.int .i64 0, .int .i64 0, .int .i64 0, .int .i64 0, .bool false, .int .i64 0, .int .i64 0, .int .i64 0, .int .i64 0, .int .i64 0, .string ⟨#[]⟩, .bool false, .int .i64 0, .int .i64 0] 79 (0, 0)) := heap_alloc_new w _
  have hsw : Hid (SameWords ws ws) := ⟨fun _ => rfl, hl⟩
  have hbw : base ≤ w.heap.size := by
    obtain ⟨g, cap, rfl⟩ := Joins.ownsRow_form hown h0
    have := hown.lt g rfl; omega
  clear hown
  go_enter Tryz.func37, Tryz.ntmps37
  go_wp2
  generalize w.alloc (.cells #[.int .i64 0, .int .i64 0, .int .i64 0, .int .i64 0, .bool false, .int .i64 0, .int .i64 0, .int .i64 0, .int .i64 0, .int .i64 0, .string ⟨#[]⟩, .bool false, .int .i64 0, .int .i64 0] 79) = w1 at kw hown1 hb1 ⊢
  go_loopw [0] (fun u wr => ∃ L : List (List UInt8), 0 < L.length ∧ wr.ownsRow base 9 1 u L.length (L.map strV) ∧ wr.heap[w.heap.size]? = some (.cells #[.int .i64 0, .int .i64 0, .int .i64 0, .int .i64 0, .bool false, .int .i64 0, .int .i64 0, .int .i64 0, .int .i64 0, .int .i64 0, .string ⟨#[]⟩, .bool false, .int .i64 0, .int .i64 0] 79 (0, 0)) ∧ Keeps (fun k => base ≤ k) w wr ∧ Hid (SameWords ws L)) (fun u _ => 7 - rowLen u)
  case atStart => exact ⟨ws, h0, hown1, hb1, kw, hsw⟩
  case round =>
    clear hown1 hb1 kw hsw
    obtain ⟨L, hL, hown, hb, kr, hS⟩ := hrel
    obtain ⟨g, cap, rfl⟩ := Joins.ownsRow_form hown hL
    obtain ⟨hbg, hgs⟩ := hown.lt g rfl
    by_cases h7 : L.length < 7
    · have h7i : (L.length : Int) < 7 := by omega
      have hgne : w.heap.size ≠ g := by
        rintro rfl
        rcases hown.2 with ⟨h, _⟩ | ⟨g', cap', cur, h, _, hgg, _⟩
        · cases h
        · simp only [Value.slice.injEq, Option.some.injEq, Addr.mk.injEq, and_true, true_and] at h
          rw [← h.1, hb] at hgg
          simp at hgg
      go_wp2_with (at_builtin; refine wpList_append_own _ rfl _ _ 81 rfl base 9 i0 (.string ⟨#[]⟩) 1 16 Tryz.underlying81 hi hz0 hz1 hz2 rfl (by decide) _ _ _ rfl (hown.alloc _) _ 1 1 [strV []] rfl rfl (cells1 _ _) ?c2 ?c3 ?c4 ?c5 ?_)
      case c2 => intro u hu; simp at hu; subst hu; rfl
      case c3 => unfold maxLen; omega
      case c4 => omega
      case c5 => simp; omega
      intro v' w2 hown' hg _
      have kg : Keeps (fun k => base ≤ k) w w2 := Keeps.trans (kr.alloc _) ⟨hg.os, hg.tape, hg.output, hg.size, fun k hk hn => hg.block k hk (fun e => hn (by have e' : some k = some g := e; injection e' with e'; omega))⟩
      have hb2 : w2.heap[w.heap.size]? = some (.cells #[.int .i64 0, .int .i64 0, .int .i64 0, .int .i64 0, .bool false, .int .i64 0, .int .i64 0, .int .i64 0, .int .i64 0, .int .i64 0, .string ⟨#[]⟩, .bool false, .int .i64 0, .int .i64 0] 79 (0, 0)) := (hg.block _ (by have := heap_lt hb; simp; omega) (fun e => hgne (by have e' : some w.heap.size = some g := e; injection e'))).trans (heap_alloc_keep hb _)
      have ho : w2.ownsRow base 9 1 v' (L ++ [[]]).length ((L ++ [[]]).map strV) := by
        have he : (L ++ [[]]).map strV = L.map strV ++ [strV []] := by simp
        rw [List.length_append, List.length_singleton, he]
        exact hown'
      have hS2 : Hid (SameWords ws (L ++ [[]])) := hS.out.more
      obtain ⟨g2, cap2, rfl⟩ := Joins.ownsRow_form ho (by simp)
      go_wp2
      go_roundw
      case rel => exact ⟨L ++ [[]], by simp, ho, hb2, kg, hS2⟩
      case measure => simp [rowLen]; omega
    · have h7i : ¬ (L.length : Int) < 7 := by omega
      have hcell : ∀ j, j < 7 → wr.cell? ⟨g, j, none⟩ = some (strV (Off.gw ws j)) := fun j hj => by
        rw [hown.cellAt j (by omega), List.getElem?_map, List.getElem?_eq_getElem (by omega : j < L.length), hS.out.at (by omega)]; rfl
      have C0 := hcell 0 (by omega)
      have C1 := hcell 1 (by omega)
      have C2 := hcell 2 (by omega)
      have C3 := hcell 3 (by omega)
      have C4 := hcell 4 (by omega)
      have C5 := hcell 5 (by omega)
      have L1 := hS.out.len 1
      have L2 := hS.out.len 2
      have L3 := hS.out.len 3
      have L4 := hS.out.len 4
      have L5 := hS.out.len 5
      have V := fun s w1 (h : s.length ≤ 1000000) => refValue_same s w1 h
      have n0 : 0 < L.length := hL
      have n1 : (1 : Int) < (L.length : Int) := by omega
      have n2 : (2 : Int) < (L.length : Int) := by omega
      have n3 : (2 : Int) ≤ (L.length : Int) := by omega
      have hb0 := Lib.cell_of_heap hb
      have hf0 := Lib.frozen_of_heap hb
      have hlt0 := heap_lt hb
      have ne0 : w.heap.size ≠ wr.heap.size := by omega
      have ne1 : ¬ wr.heap.size = w.heap.size := by omega
      have ne2 : ¬ g = wr.heap.size := by omega
      have hE1 : Env wr := hE.keeps kr fun k hk => Nat.le_trans h10 hk
      clear hS hcell hl h0
      rw [hw] at C0
      unfold Off.sDrop at C0
      have Hw := Lib.hid hw
      clear hw
      obtain ⟨y1, hy1⟩ : ∃ y, Off.gw ws 1 = y := ⟨_, rfl⟩
      rw [hy1] at C1 L1
      have Hy1 := Lib.hid hy1
      clear hy1
      obtain ⟨y2, hy2⟩ : ∃ y, Off.gw ws 2 = y := ⟨_, rfl⟩
      rw [hy2] at C2 L2
      have Hy2 := Lib.hid hy2
      clear hy2
      obtain ⟨y3, hy3⟩ : ∃ y, Off.gw ws 3 = y := ⟨_, rfl⟩
      rw [hy3] at C3 L3
      have Hy3 := Lib.hid hy3
      clear hy3
      obtain ⟨y4, hy4⟩ : ∃ y, Off.gw ws 4 = y := ⟨_, rfl⟩
      rw [hy4] at C4 L4
      have Hy4 := Lib.hid hy4
      clear hy4
      obtain ⟨y5, hy5⟩ : ∃ y, Off.gw ws 5 = y := ⟨_, rfl⟩
      rw [hy5] at C5 L5
      have Hy5 := Lib.hid hy5
      clear hy5
      go_wp2_with (go_at_call 69; refine (V _ _ (by assumption)).mono ?_; rintro e w8 ⟨rfl, rfl⟩)
      have v9 := heap_alloc_keep (heap_fill14 hb (.int .i64 5) (.int .i64 (Off.value y1)) (.int .i64 0) (.int .i64 0) (.bool false) (.int .i64 0) (.int .i64 0) (.int .i64 0) (.int .i64 0) (.int .i64 0) (.string ⟨#[]⟩) (.bool false) (.int .i64 0) (.int .i64 0)) (.cells #[.int .i64 5, .int .i64 (Off.value y1), .int .i64 0, .int .i64 0, .bool false, .int .i64 0, .int .i64 0, .int .i64 0, .int .i64 0, .int .i64 0, .string ⟨#[]⟩, .bool false, .int .i64 0, .int .i64 0] 79)
      refine bodyPost_ret (res_guess v9 rfl) rfl ⟨?_, (Keeps.fill14' kr hbw _ _ _ _ _ _ _ _ _ _ _ _ _ _).alloc _⟩
      rw [guess_drop_eq Hw.out, Hy1.out]
      first | done | rfl

set_option maxRecDepth 100000 in
set_option maxHeartbeats 4000000 in
theorem guess_crash (v : Value) (base : Nat) (ws : List (List UInt8)) (w : World) (hE : Env w) (h10 : 10 ≤ base) (hown : w.ownsRow base 9 1 v ws.length (ws.map strV)) (h0 : 0 < ws.length)
    (hl : ∀ x ∈ ws, x.length ≤ 1000000) (hw : Off.gw ws 0 = Off.sCrash) :
    Calls Tryz.prog 37 #[v] w (GuessPost base (Off.guess ws) w) := by
  obtain ⟨i0, hi, hz0, hz1, hz2⟩ := info_parts infoStr
  have kw : Keeps (fun k => base ≤ k) w (w.alloc (.cells #[.int .i64 0, .int .i64 0, .int .i64 0, .int .i64 0, .bool false, .int .i64 0, .int .i64 0, .int .i64 0, .int .i64 0, .int .i64 0, .string ⟨#[]⟩, .bool false, .int .i64 0, .int .i64 0] 79)) := (Keeps.refl _ _).alloc _
  have hown1 : (w.alloc (.cells #[.int .i64 0, .int .i64 0, .int .i64 0, .int .i64 0, .bool false, .int .i64 0, .int .i64 0, .int .i64 0, .int .i64 0, .int .i64 0, .string ⟨#[]⟩, .bool false, .int .i64 0, .int .i64 0] 79)).ownsRow base 9 1 v ws.length (ws.map strV) := hown.alloc _
  have hb1 : (w.alloc (.cells #[.int .i64 0, .int .i64 0, .int .i64 0, .int .i64 0, .bool false, .int .i64 0, .int .i64 0, .int .i64 0, .int .i64 0, .int .i64 0, .string ⟨#[]⟩, .bool false, .int .i64 0, .int .i64 0] 79)).heap[w.heap.size]? = some (.cells #[.int .i64 0, .int .i64 0, .int .i64 0, .int .i64 0, .bool false, .int .i64 0, .int .i64 0, .int .i64 0, .int .i64 0, .int .i64 0, .string ⟨#[]⟩, .bool false, .int .i64 0, .int .i64 0] 79 (0, 0)) := heap_alloc_new w _
  have hsw : Hid (SameWords ws ws) := ⟨fun _ => rfl, hl⟩
  have hbw : base ≤ w.heap.size := by
    obtain ⟨g, cap, rfl⟩ := Joins.ownsRow_form hown h0
    have := hown.lt g rfl; omega
  clear hown
  go_enter Tryz.func37, Tryz.ntmps37
  go_wp2
  generalize w.alloc (.cells #[.int .i64 0, .int .i64 0, .int .i64 0, .int .i64 0, .bool false, .int .i64 0, .int .i64 0, .int .i64 0, .int .i64 0, .int .i64 0, .string ⟨#[]⟩, .bool false, .int .i64 0, .int .i64 0] 79) = w1 at kw hown1 hb1 ⊢
  go_loopw [0] (fun u wr => ∃ L : List (List UInt8), 0 < L.length ∧ wr.ownsRow base 9 1 u L.length (L.map strV) ∧ wr.heap[w.heap.size]? = some (.cells #[.int .i64 0, .int .i64 0, .int .i64 0, .int .i64 0, .bool false, .int .i64 0, .int .i64 0, .int .i64 0, .int .i64 0, .int .i64 0, .string ⟨#[]⟩, .bool false, .int .i64 0, .int .i64 0] 79 (0, 0)) ∧ Keeps (fun k => base ≤ k) w wr ∧ Hid (SameWords ws L)) (fun u _ => 7 - rowLen u)
  case atStart => exact ⟨ws, h0, hown1, hb1, kw, hsw⟩
  case round =>
    clear hown1 hb1 kw hsw
    obtain ⟨L, hL, hown, hb, kr, hS⟩ := hrel
    obtain ⟨g, cap, rfl⟩ := Joins.ownsRow_form hown hL
    obtain ⟨hbg, hgs⟩ := hown.lt g rfl
    by_cases h7 : L.length < 7
    · have h7i : (L.length : Int) < 7 := by omega
      have hgne : w.heap.size ≠ g := by
        rintro rfl
        rcases hown.2 with ⟨h, _⟩ | ⟨g', cap', cur, h, _, hgg, _⟩
        · cases h
        · simp only [Value.slice.injEq, Option.some.injEq, Addr.mk.injEq, and_true, true_and] at h
          rw [← h.1, hb] at hgg
          simp at hgg
      go_wp2_with (at_builtin; refine wpList_append_own _ rfl _ _ 81 rfl base 9 i0 (.string ⟨#[]⟩) 1 16 Tryz.underlying81 hi hz0 hz1 hz2 rfl (by decide) _ _ _ rfl (hown.alloc _) _ 1 1 [strV []] rfl rfl (cells1 _ _) ?c2 ?c3 ?c4 ?c5 ?_)
      case c2 => intro u hu; simp at hu; subst hu; rfl
      case c3 => unfold maxLen; omega
      case c4 => omega
      case c5 => simp; omega
      intro v' w2 hown' hg _
      have kg : Keeps (fun k => base ≤ k) w w2 := Keeps.trans (kr.alloc _) ⟨hg.os, hg.tape, hg.output, hg.size, fun k hk hn => hg.block k hk (fun e => hn (by have e' : some k = some g := e; injection e' with e'; omega))⟩
      have hb2 : w2.heap[w.heap.size]? = some (.cells #[.int .i64 0, .int .i64 0, .int .i64 0, .int .i64 0, .bool false, .int .i64 0, .int .i64 0, .int .i64 0, .int .i64 0, .int .i64 0, .string ⟨#[]⟩, .bool false, .int .i64 0, .int .i64 0] 79 (0, 0)) := (hg.block _ (by have := heap_lt hb; simp; omega) (fun e => hgne (by have e' : some w.heap.size = some g := e; injection e'))).trans (heap_alloc_keep hb _)
      have ho : w2.ownsRow base 9 1 v' (L ++ [[]]).length ((L ++ [[]]).map strV) := by
        have he : (L ++ [[]]).map strV = L.map strV ++ [strV []] := by simp
        rw [List.length_append, List.length_singleton, he]
        exact hown'
      have hS2 : Hid (SameWords ws (L ++ [[]])) := hS.out.more
      obtain ⟨g2, cap2, rfl⟩ := Joins.ownsRow_form ho (by simp)
      go_wp2
      go_roundw
      case rel => exact ⟨L ++ [[]], by simp, ho, hb2, kg, hS2⟩
      case measure => simp [rowLen]; omega
    · have h7i : ¬ (L.length : Int) < 7 := by omega
      have hcell : ∀ j, j < 7 → wr.cell? ⟨g, j, none⟩ = some (strV (Off.gw ws j)) := fun j hj => by
        rw [hown.cellAt j (by omega), List.getElem?_map, List.getElem?_eq_getElem (by omega : j < L.length), hS.out.at (by omega)]; rfl
      have C0 := hcell 0 (by omega)
      have C1 := hcell 1 (by omega)
      have C2 := hcell 2 (by omega)
      have C3 := hcell 3 (by omega)
      have C4 := hcell 4 (by omega)
      have C5 := hcell 5 (by omega)
      have L1 := hS.out.len 1
      have L2 := hS.out.len 2
      have L3 := hS.out.len 3
      have L4 := hS.out.len 4
      have L5 := hS.out.len 5
      have V := fun s w1 (h : s.length ≤ 1000000) => refValue_same s w1 h
      have n0 : 0 < L.length := hL
      have n1 : (1 : Int) < (L.length : Int) := by omega
      have n2 : (2 : Int) < (L.length : Int) := by omega
      have n3 : (2 : Int) ≤ (L.length : Int) := by omega
      have hb0 := Lib.cell_of_heap hb
      have hf0 := Lib.frozen_of_heap hb
      have hlt0 := heap_lt hb
      have ne0 : w.heap.size ≠ wr.heap.size := by omega
      have ne1 : ¬ wr.heap.size = w.heap.size := by omega
      have ne2 : ¬ g = wr.heap.size := by omega
      have hE1 : Env wr := hE.keeps kr fun k hk => Nat.le_trans h10 hk
      clear hS hcell hl h0
      rw [hw] at C0
      unfold Off.sCrash at C0
      have Hw := Lib.hid hw
      clear hw
      obtain ⟨y1, hy1⟩ : ∃ y, Off.gw ws 1 = y := ⟨_, rfl⟩
      rw [hy1] at C1 L1
      have Hy1 := Lib.hid hy1
      clear hy1
      obtain ⟨y2, hy2⟩ : ∃ y, Off.gw ws 2 = y := ⟨_, rfl⟩
      rw [hy2] at C2 L2
      have Hy2 := Lib.hid hy2
      clear hy2
      obtain ⟨y3, hy3⟩ : ∃ y, Off.gw ws 3 = y := ⟨_, rfl⟩
      rw [hy3] at C3 L3
      have Hy3 := Lib.hid hy3
      clear hy3
      obtain ⟨y4, hy4⟩ : ∃ y, Off.gw ws 4 = y := ⟨_, rfl⟩
      rw [hy4] at C4 L4
      have Hy4 := Lib.hid hy4
      clear hy4
      obtain ⟨y5, hy5⟩ : ∃ y, Off.gw ws 5 = y := ⟨_, rfl⟩
      rw [hy5] at C5 L5
      have Hy5 := Lib.hid hy5
      clear hy5
      go_wp2_with (go_at_call 69; refine (V _ _ (by assumption)).mono ?_; rintro e w8 ⟨rfl, rfl⟩)
      have v9 := heap_alloc_keep (heap_fill14 hb (.int .i64 6) (.int .i64 (Off.value y1)) (.int .i64 0) (.int .i64 (Off.value y2)) (.bool false) (.int .i64 0) (.int .i64 0) (.int .i64 0) (.int .i64 0) (.int .i64 0) (.string ⟨#[]⟩) (.bool false) (.int .i64 0) (.int .i64 0)) (.cells #[.int .i64 6, .int .i64 (Off.value y1), .int .i64 0, .int .i64 (Off.value y2), .bool false, .int .i64 0, .int .i64 0, .int .i64 0, .int .i64 0, .int .i64 0, .string ⟨#[]⟩, .bool false, .int .i64 0, .int .i64 0] 79)
      refine bodyPost_ret (res_guess v9 rfl) rfl ⟨?_, (Keeps.fill14' kr hbw _ _ _ _ _ _ _ _ _ _ _ _ _ _).alloc _⟩
      rw [guess_crash_eq Hw.out, Hy1.out, Hy2.out]
      first | done | rfl

set_option maxRecDepth 100000 in
set_option maxHeartbeats 4000000 in
theorem guess_tell (v : Value) (base : Nat) (ws : List (List UInt8)) (w : World) (hE : Env w) (h10 : 10 ≤ base) (hown : w.ownsRow base 9 1 v ws.length (ws.map strV)) (h0 : 0 < ws.length)
    (hl : ∀ x ∈ ws, x.length ≤ 1000000) (hw : Off.gw ws 0 = Off.sTell) :
    Calls Tryz.prog 37 #[v] w (GuessPost base (Off.guess ws) w) := by
  obtain ⟨i0, hi, hz0, hz1, hz2⟩ := info_parts infoStr
  have kw : Keeps (fun k => base ≤ k) w (w.alloc (.cells #[.int .i64 0, .int .i64 0, .int .i64 0, .int .i64 0, .bool false, .int .i64 0, .int .i64 0, .int .i64 0, .int .i64 0, .int .i64 0, .string ⟨#[]⟩, .bool false, .int .i64 0, .int .i64 0] 79)) := (Keeps.refl _ _).alloc _
  have hown1 : (w.alloc (.cells #[.int .i64 0, .int .i64 0, .int .i64 0, .int .i64 0, .bool false, .int .i64 0, .int .i64 0, .int .i64 0, .int .i64 0, .int .i64 0, .string ⟨#[]⟩, .bool false, .int .i64 0, .int .i64 0] 79)).ownsRow base 9 1 v ws.length (ws.map strV) := hown.alloc _
  have hb1 : (w.alloc (.cells #[.int .i64 0, .int .i64 0, .int .i64 0, .int .i64 0, .bool false, .int .i64 0, .int .i64 0, .int .i64 0, .int .i64 0, .int .i64 0, .string ⟨#[]⟩, .bool false, .int .i64 0, .int .i64 0] 79)).heap[w.heap.size]? = some (.cells #[.int .i64 0, .int .i64 0, .int .i64 0, .int .i64 0, .bool false, .int .i64 0, .int .i64 0, .int .i64 0, .int .i64 0, .int .i64 0, .string ⟨#[]⟩, .bool false, .int .i64 0, .int .i64 0] 79 (0, 0)) := heap_alloc_new w _
  have hsw : Hid (SameWords ws ws) := ⟨fun _ => rfl, hl⟩
  have hbw : base ≤ w.heap.size := by
    obtain ⟨g, cap, rfl⟩ := Joins.ownsRow_form hown h0
    have := hown.lt g rfl; omega
  clear hown
  go_enter Tryz.func37, Tryz.ntmps37
  go_wp2
  generalize w.alloc (.cells #[.int .i64 0, .int .i64 0, .int .i64 0, .int .i64 0, .bool false, .int .i64 0, .int .i64 0, .int .i64 0, .int .i64 0, .int .i64 0, .string ⟨#[]⟩, .bool false, .int .i64 0, .int .i64 0] 79) = w1 at kw hown1 hb1 ⊢
  go_loopw [0] (fun u wr => ∃ L : List (List UInt8), 0 < L.length ∧ wr.ownsRow base 9 1 u L.length (L.map strV) ∧ wr.heap[w.heap.size]? = some (.cells #[.int .i64 0, .int .i64 0, .int .i64 0, .int .i64 0, .bool false, .int .i64 0, .int .i64 0, .int .i64 0, .int .i64 0, .int .i64 0, .string ⟨#[]⟩, .bool false, .int .i64 0, .int .i64 0] 79 (0, 0)) ∧ Keeps (fun k => base ≤ k) w wr ∧ Hid (SameWords ws L)) (fun u _ => 7 - rowLen u)
  case atStart => exact ⟨ws, h0, hown1, hb1, kw, hsw⟩
  case round =>
    clear hown1 hb1 kw hsw
    obtain ⟨L, hL, hown, hb, kr, hS⟩ := hrel
    obtain ⟨g, cap, rfl⟩ := Joins.ownsRow_form hown hL
    obtain ⟨hbg, hgs⟩ := hown.lt g rfl
    by_cases h7 : L.length < 7
    · have h7i : (L.length : Int) < 7 := by omega
      have hgne : w.heap.size ≠ g := by
        rintro rfl
        rcases hown.2 with ⟨h, _⟩ | ⟨g', cap', cur, h, _, hgg, _⟩
        · cases h
        · simp only [Value.slice.injEq, Option.some.injEq, Addr.mk.injEq, and_true, true_and] at h
          rw [← h.1, hb] at hgg
          simp at hgg
      go_wp2_with (at_builtin; refine wpList_append_own _ rfl _ _ 81 rfl base 9 i0 (.string ⟨#[]⟩) 1 16 Tryz.underlying81 hi hz0 hz1 hz2 rfl (by decide) _ _ _ rfl (hown.alloc _) _ 1 1 [strV []] rfl rfl (cells1 _ _) ?c2 ?c3 ?c4 ?c5 ?_)
      case c2 => intro u hu; simp at hu; subst hu; rfl
      case c3 => unfold maxLen; omega
      case c4 => omega
      case c5 => simp; omega
      intro v' w2 hown' hg _
      have kg : Keeps (fun k => base ≤ k) w w2 := Keeps.trans (kr.alloc _) ⟨hg.os, hg.tape, hg.output, hg.size, fun k hk hn => hg.block k hk (fun e => hn (by have e' : some k = some g := e; injection e' with e'; omega))⟩
      have hb2 : w2.heap[w.heap.size]? = some (.cells #[.int .i64 0, .int .i64 0, .int .i64 0, .int .i64 0, .bool false, .int .i64 0, .int .i64 0, .int .i64 0, .int .i64 0, .int .i64 0, .string ⟨#[]⟩, .bool false, .int .i64 0, .int .i64 0] 79 (0, 0)) := (hg.block _ (by have := heap_lt hb; simp; omega) (fun e => hgne (by have e' : some w.heap.size = some g := e; injection e'))).trans (heap_alloc_keep hb _)
      have ho : w2.ownsRow base 9 1 v' (L ++ [[]]).length ((L ++ [[]]).map strV) := by
        have he : (L ++ [[]]).map strV = L.map strV ++ [strV []] := by simp
        rw [List.length_append, List.length_singleton, he]
        exact hown'
      have hS2 : Hid (SameWords ws (L ++ [[]])) := hS.out.more
      obtain ⟨g2, cap2, rfl⟩ := Joins.ownsRow_form ho (by simp)
      go_wp2
      go_roundw
      case rel => exact ⟨L ++ [[]], by simp, ho, hb2, kg, hS2⟩
      case measure => simp [rowLen]; omega
    · have h7i : ¬ (L.length : Int) < 7 := by omega
      have hcell : ∀ j, j < 7 → wr.cell? ⟨g, j, none⟩ = some (strV (Off.gw ws j)) := fun j hj => by
        rw [hown.cellAt j (by omega), List.getElem?_map, List.getElem?_eq_getElem (by omega : j < L.length), hS.out.at (by omega)]; rfl
      have C0 := hcell 0 (by omega)
      have C1 := hcell 1 (by omega)
      have C2 := hcell 2 (by omega)
      have C3 := hcell 3 (by omega)
      have C4 := hcell 4 (by omega)
      have C5 := hcell 5 (by omega)
      have L1 := hS.out.len 1
      have L2 := hS.out.len 2
      have L3 := hS.out.len 3
      have L4 := hS.out.len 4
      have L5 := hS.out.len 5
      have V := fun s w1 (h : s.length ≤ 1000000) => refValue_same s w1 h
      have n0 : 0 < L.length := hL
      have n1 : (1 : Int) < (L.length : Int) := by omega
      have n2 : (2 : Int) < (L.length : Int) := by omega
      have n3 : (2 : Int) ≤ (L.length : Int) := by omega
      have hb0 := Lib.cell_of_heap hb
      have hf0 := Lib.frozen_of_heap hb
      have hlt0 := heap_lt hb
      have ne0 : w.heap.size ≠ wr.heap.size := by omega
      have ne1 : ¬ wr.heap.size = w.heap.size := by omega
      have ne2 : ¬ g = wr.heap.size := by omega
      have hE1 : Env wr := hE.keeps kr fun k hk => Nat.le_trans h10 hk
      clear hS hcell hl h0
      rw [hw] at C0
      unfold Off.sTell at C0
      have Hw := Lib.hid hw
      clear hw
      obtain ⟨y1, hy1⟩ : ∃ y, Off.gw ws 1 = y := ⟨_, rfl⟩
      rw [hy1] at C1 L1
      have Hy1 := Lib.hid hy1
      clear hy1
      obtain ⟨y2, hy2⟩ : ∃ y, Off.gw ws 2 = y := ⟨_, rfl⟩
      rw [hy2] at C2 L2
      have Hy2 := Lib.hid hy2
      clear hy2
      obtain ⟨y3, hy3⟩ : ∃ y, Off.gw ws 3 = y := ⟨_, rfl⟩
      rw [hy3] at C3 L3
      have Hy3 := Lib.hid hy3
      clear hy3
      obtain ⟨y4, hy4⟩ : ∃ y, Off.gw ws 4 = y := ⟨_, rfl⟩
      rw [hy4] at C4 L4
      have Hy4 := Lib.hid hy4
      clear hy4
      obtain ⟨y5, hy5⟩ : ∃ y, Off.gw ws 5 = y := ⟨_, rfl⟩
      rw [hy5] at C5 L5
      have Hy5 := Lib.hid hy5
      clear hy5
      go_wp2_with (go_at_call 69; refine (V _ _ (by assumption)).mono ?_; rintro e w8 ⟨rfl, rfl⟩)
      have v9 := heap_alloc_keep (heap_fill14 hb (.int .i64 3) (.int .i64 (Off.value y1)) (.int .i64 (Off.value y2)) (.int .i64 0) (.bool false) (.int .i64 0) (.int .i64 0) (.int .i64 0) (.int .i64 0) (.int .i64 0) (.string ⟨#[]⟩) (.bool false) (.int .i64 0) (.int .i64 0)) (.cells #[.int .i64 3, .int .i64 (Off.value y1), .int .i64 (Off.value y2), .int .i64 0, .bool false, .int .i64 0, .int .i64 0, .int .i64 0, .int .i64 0, .int .i64 0, .string ⟨#[]⟩, .bool false, .int .i64 0, .int .i64 0] 79)
      refine bodyPost_ret (res_guess v9 rfl) rfl ⟨?_, (Keeps.fill14' kr hbw _ _ _ _ _ _ _ _ _ _ _ _ _ _).alloc _⟩
      rw [guess_tell_eq Hw.out, Hy1.out, Hy2.out]
      first | done | rfl

set_option maxRecDepth 100000 in
set_option maxHeartbeats 4000000 in
theorem guess_deliver (v : Value) (base : Nat) (ws : List (List UInt8)) (w : World) (hE : Env w) (h10 : 10 ≤ base) (hown : w.ownsRow base 9 1 v ws.length (ws.map strV)) (h0 : 0 < ws.length)
    (hl : ∀ x ∈ ws, x.length ≤ 1000000) (hw : Off.gw ws 0 = Off.sDeliver) :
    Calls Tryz.prog 37 #[v] w (GuessPost base (Off.guess ws) w) := by
  obtain ⟨i0, hi, hz0, hz1, hz2⟩ := info_parts infoStr
  have kw : Keeps (fun k => base ≤ k) w (w.alloc (.cells #[.int .i64 0, .int .i64 0, .int .i64 0, .int .i64 0, .bool false, .int .i64 0, .int .i64 0, .int .i64 0, .int .i64 0, .int .i64 0, .string ⟨#[]⟩, .bool false, .int .i64 0, .int .i64 0] 79)) := (Keeps.refl _ _).alloc _
  have hown1 : (w.alloc (.cells #[.int .i64 0, .int .i64 0, .int .i64 0, .int .i64 0, .bool false, .int .i64 0, .int .i64 0, .int .i64 0, .int .i64 0, .int .i64 0, .string ⟨#[]⟩, .bool false, .int .i64 0, .int .i64 0] 79)).ownsRow base 9 1 v ws.length (ws.map strV) := hown.alloc _
  have hb1 : (w.alloc (.cells #[.int .i64 0, .int .i64 0, .int .i64 0, .int .i64 0, .bool false, .int .i64 0, .int .i64 0, .int .i64 0, .int .i64 0, .int .i64 0, .string ⟨#[]⟩, .bool false, .int .i64 0, .int .i64 0] 79)).heap[w.heap.size]? = some (.cells #[.int .i64 0, .int .i64 0, .int .i64 0, .int .i64 0, .bool false, .int .i64 0, .int .i64 0, .int .i64 0, .int .i64 0, .int .i64 0, .string ⟨#[]⟩, .bool false, .int .i64 0, .int .i64 0] 79 (0, 0)) := heap_alloc_new w _
  have hsw : Hid (SameWords ws ws) := ⟨fun _ => rfl, hl⟩
  have hbw : base ≤ w.heap.size := by
    obtain ⟨g, cap, rfl⟩ := Joins.ownsRow_form hown h0
    have := hown.lt g rfl; omega
  clear hown
  go_enter Tryz.func37, Tryz.ntmps37
  go_wp2
  generalize w.alloc (.cells #[.int .i64 0, .int .i64 0, .int .i64 0, .int .i64 0, .bool false, .int .i64 0, .int .i64 0, .int .i64 0, .int .i64 0, .int .i64 0, .string ⟨#[]⟩, .bool false, .int .i64 0, .int .i64 0] 79) = w1 at kw hown1 hb1 ⊢
  go_loopw [0] (fun u wr => ∃ L : List (List UInt8), 0 < L.length ∧ wr.ownsRow base 9 1 u L.length (L.map strV) ∧ wr.heap[w.heap.size]? = some (.cells #[.int .i64 0, .int .i64 0, .int .i64 0, .int .i64 0, .bool false, .int .i64 0, .int .i64 0, .int .i64 0, .int .i64 0, .int .i64 0, .string ⟨#[]⟩, .bool false, .int .i64 0, .int .i64 0] 79 (0, 0)) ∧ Keeps (fun k => base ≤ k) w wr ∧ Hid (SameWords ws L)) (fun u _ => 7 - rowLen u)
  case atStart => exact ⟨ws, h0, hown1, hb1, kw, hsw⟩
  case round =>
    clear hown1 hb1 kw hsw
    obtain ⟨L, hL, hown, hb, kr, hS⟩ := hrel
    obtain ⟨g, cap, rfl⟩ := Joins.ownsRow_form hown hL
    obtain ⟨hbg, hgs⟩ := hown.lt g rfl
    by_cases h7 : L.length < 7
    · have h7i : (L.length : Int) < 7 := by omega
      have hgne : w.heap.size ≠ g := by
        rintro rfl
        rcases hown.2 with ⟨h, _⟩ | ⟨g', cap', cur, h, _, hgg, _⟩
        · cases h
        · simp only [Value.slice.injEq, Option.some.injEq, Addr.mk.injEq, and_true, true_and] at h
          rw [← h.1, hb] at hgg
          simp at hgg
      go_wp2_with (at_builtin; refine wpList_append_own _ rfl _ _ 81 rfl base 9 i0 (.string ⟨#[]⟩) 1 16 Tryz.underlying81 hi hz0 hz1 hz2 rfl (by decide) _ _ _ rfl (hown.alloc _) _ 1 1 [strV []] rfl rfl (cells1 _ _) ?c2 ?c3 ?c4 ?c5 ?_)
      case c2 => intro u hu; simp at hu; subst hu; rfl
      case c3 => unfold maxLen; omega
      case c4 => omega
      case c5 => simp; omega
      intro v' w2 hown' hg _
      have kg : Keeps (fun k => base ≤ k) w w2 := Keeps.trans (kr.alloc _) ⟨hg.os, hg.tape, hg.output, hg.size, fun k hk hn => hg.block k hk (fun e => hn (by have e' : some k = some g := e; injection e' with e'; omega))⟩
      have hb2 : w2.heap[w.heap.size]? = some (.cells #[.int .i64 0, .int .i64 0, .int .i64 0, .int .i64 0, .bool false, .int .i64 0, .int .i64 0, .int .i64 0, .int .i64 0, .int .i64 0, .string ⟨#[]⟩, .bool false, .int .i64 0, .int .i64 0] 79 (0, 0)) := (hg.block _ (by have := heap_lt hb; simp; omega) (fun e => hgne (by have e' : some w.heap.size = some g := e; injection e'))).trans (heap_alloc_keep hb _)
      have ho : w2.ownsRow base 9 1 v' (L ++ [[]]).length ((L ++ [[]]).map strV) := by
        have he : (L ++ [[]]).map strV = L.map strV ++ [strV []] := by simp
        rw [List.length_append, List.length_singleton, he]
        exact hown'
      have hS2 : Hid (SameWords ws (L ++ [[]])) := hS.out.more
      obtain ⟨g2, cap2, rfl⟩ := Joins.ownsRow_form ho (by simp)
      go_wp2
      go_roundw
      case rel => exact ⟨L ++ [[]], by simp, ho, hb2, kg, hS2⟩
      case measure => simp [rowLen]; omega
    · have h7i : ¬ (L.length : Int) < 7 := by omega
      have hcell : ∀ j, j < 7 → wr.cell? ⟨g, j, none⟩ = some (strV (Off.gw ws j)) := fun j hj => by
        rw [hown.cellAt j (by omega), List.getElem?_map, List.getElem?_eq_getElem (by omega : j < L.length), hS.out.at (by omega)]; rfl
      have C0 := hcell 0 (by omega)
      have C1 := hcell 1 (by omega)
      have C2 := hcell 2 (by omega)
      have C3 := hcell 3 (by omega)
      have C4 := hcell 4 (by omega)
      have C5 := hcell 5 (by omega)
      have L1 := hS.out.len 1
      have L2 := hS.out.len 2
      have L3 := hS.out.len 3
      have L4 := hS.out.len 4
      have L5 := hS.out.len 5
      have V := fun s w1 (h : s.length ≤ 1000000) => refValue_same s w1 h
      have n0 : 0 < L.length := hL
      have n1 : (1 : Int) < (L.length : Int) := by omega
      have n2 : (2 : Int) < (L.length : Int) := by omega
      have n3 : (2 : Int) ≤ (L.length : Int) := by omega
      have hb0 := Lib.cell_of_heap hb
      have hf0 := Lib.frozen_of_heap hb
      have hlt0 := heap_lt hb
      have ne0 : w.heap.size ≠ wr.heap.size := by omega
      have ne1 : ¬ wr.heap.size = w.heap.size := by omega
      have ne2 : ¬ g = wr.heap.size := by omega
      have hE1 : Env wr := hE.keeps kr fun k hk => Nat.le_trans h10 hk
      clear hS hcell hl h0
      rw [hw] at C0
      unfold Off.sDeliver at C0
      have Hw := Lib.hid hw
      clear hw
      obtain ⟨y1, hy1⟩ : ∃ y, Off.gw ws 1 = y := ⟨_, rfl⟩
      rw [hy1] at C1 L1
      have Hy1 := Lib.hid hy1
      clear hy1
      obtain ⟨y2, hy2⟩ : ∃ y, Off.gw ws 2 = y := ⟨_, rfl⟩
      rw [hy2] at C2 L2
      have Hy2 := Lib.hid hy2
      clear hy2
      obtain ⟨y3, hy3⟩ : ∃ y, Off.gw ws 3 = y := ⟨_, rfl⟩
      rw [hy3] at C3 L3
      have Hy3 := Lib.hid hy3
      clear hy3
      obtain ⟨y4, hy4⟩ : ∃ y, Off.gw ws 4 = y := ⟨_, rfl⟩
      rw [hy4] at C4 L4
      have Hy4 := Lib.hid hy4
      clear hy4
      obtain ⟨y5, hy5⟩ : ∃ y, Off.gw ws 5 = y := ⟨_, rfl⟩
      rw [hy5] at C5 L5
      have Hy5 := Lib.hid hy5
      clear hy5
      go_wp2_with (go_at_call 69; refine (V _ _ (by assumption)).mono ?_; rintro e w8 ⟨rfl, rfl⟩)
      have v9 := heap_alloc_keep (heap_fill14 hb (.int .i64 4) (.int .i64 (Off.value y1)) (.int .i64 0) (.int .i64 0) (.bool false) (.int .i64 0) (.int .i64 0) (.int .i64 0) (.int .i64 0) (.int .i64 0) (.string ⟨#[]⟩) (.bool false) (.int .i64 0) (.int .i64 0)) (.cells #[.int .i64 4, .int .i64 (Off.value y1), .int .i64 0, .int .i64 0, .bool false, .int .i64 0, .int .i64 0, .int .i64 0, .int .i64 0, .int .i64 0, .string ⟨#[]⟩, .bool false, .int .i64 0, .int .i64 0] 79)
      refine bodyPost_ret (res_guess v9 rfl) rfl ⟨?_, (Keeps.fill14' kr hbw _ _ _ _ _ _ _ _ _ _ _ _ _ _).alloc _⟩
      rw [guess_deliver_eq Hw.out, Hy1.out]
      first | done | rfl

set_option maxRecDepth 100000 in
set_option maxHeartbeats 4000000 in
theorem guess_copy (v : Value) (base : Nat) (ws : List (List UInt8)) (w : World) (hE : Env w) (h10 : 10 ≤ base) (hown : w.ownsRow base 9 1 v ws.length (ws.map strV)) (h0 : 0 < ws.length)
    (hl : ∀ x ∈ ws, x.length ≤ 1000000) (hw : Off.gw ws 0 = Off.sCopy) :
    Calls Tryz.prog 37 #[v] w (GuessPost base (Off.guess ws) w) := by
  obtain ⟨i0, hi, hz0, hz1, hz2⟩ := info_parts infoStr
  have kw : Keeps (fun k => base ≤ k) w (w.alloc (.cells #[.int .i64 0, .int .i64 0, .int .i64 0, .int .i64 0, .bool false, .int .i64 0, .int .i64 0, .int .i64 0, .int .i64 0, .int .i64 0, .string ⟨#[]⟩, .bool false, .int .i64 0, .int .i64 0] 79)) := (Keeps.refl _ _).alloc _
  have hown1 : (w.alloc (.cells #[.int .i64 0, .int .i64 0, .int .i64 0, .int .i64 0, .bool false, .int .i64 0, .int .i64 0, .int .i64 0, .int .i64 0, .int .i64 0, .string ⟨#[]⟩, .bool false, .int .i64 0, .int .i64 0] 79)).ownsRow base 9 1 v ws.length (ws.map strV) := hown.alloc _
  have hb1 : (w.alloc (.cells #[.int .i64 0, .int .i64 0, .int .i64 0, .int .i64 0, .bool false, .int .i64 0, .int .i64 0, .int .i64 0, .int .i64 0, .int .i64 0, .string ⟨#[]⟩, .bool false, .int .i64 0, .int .i64 0] 79)).heap[w.heap.size]? = some (.cells #[.int .i64 0, .int .i64 0, .int .i64 0, .int .i64 0, .bool false, .int .i64 0, .int .i64 0, .int .i64 0, .int .i64 0, .int .i64 0, .string ⟨#[]⟩, .bool false, .int .i64 0, .int .i64 0] 79 (0, 0)) := heap_alloc_new w _
  have hsw : Hid (SameWords ws ws) := ⟨fun _ => rfl, hl⟩
  have hbw : base ≤ w.heap.size := by
    obtain ⟨g, cap, rfl⟩ := Joins.ownsRow_form hown h0
    have := hown.lt g rfl; omega
  clear hown
  go_enter Tryz.func37, Tryz.ntmps37
  go_wp2
  generalize w.alloc (.cells #[.int .i64 0, .int .i64 0, .int .i64 0, .int .i64 0, .bool false, .int .i64 0, .int .i64 0, .int .i64 0, .int .i64 0, .int .i64 0, .string ⟨#[]⟩, .bool false, .int .i64 0, .int .i64 0] 79) = w1 at kw hown1 hb1 ⊢
  go_loopw [0] (fun u wr => ∃ L : List (List UInt8), 0 < L.length ∧ wr.ownsRow base 9 1 u L.length (L.map strV) ∧ wr.heap[w.heap.size]? = some (.cells #[.int .i64 0, .int .i64 0, .int .i64 0, .int .i64 0, .bool false, .int .i64 0, .int .i64 0, .int .i64 0, .int .i64 0, .int .i64 0, .string ⟨#[]⟩, .bool false, .int .i64 0, .int .i64 0] 79 (0, 0)) ∧ Keeps (fun k => base ≤ k) w wr ∧ Hid (SameWords ws L)) (fun u _ => 7 - rowLen u)
  case atStart => exact ⟨ws, h0, hown1, hb1, kw, hsw⟩
  case round =>
    clear hown1 hb1 kw hsw
    obtain ⟨L, hL, hown, hb, kr, hS⟩ := hrel
    obtain ⟨g, cap, rfl⟩ := Joins.ownsRow_form hown hL
    obtain ⟨hbg, hgs⟩ := hown.lt g rfl
    by_cases h7 : L.length < 7
    · have h7i : (L.length : Int) < 7 := by omega
      have hgne : w.heap.size ≠ g := by
        rintro rfl
        rcases hown.2 with ⟨h, _⟩ | ⟨g', cap', cur, h, _, hgg, _⟩
        · cases h
        · simp only [Value.slice.injEq, Option.some.injEq, Addr.mk.injEq, and_true, true_and] at h
          rw [← h.1, hb] at hgg
          simp at hgg
      go_wp2_with (at_builtin; refine wpList_append_own _ rfl _ _ 81 rfl base 9 i0 (.string ⟨#[]⟩) 1 16 Tryz.underlying81 hi hz0 hz1 hz2 rfl (by decide) _ _ _ rfl (hown.alloc _) _ 1 1 [strV []] rfl rfl (cells1 _ _) ?c2 ?c3 ?c4 ?c5 ?_)
      case c2 => intro u hu; simp at hu; subst hu; rfl
      case c3 => unfold maxLen; omega
      case c4 => omega
      case c5 => simp; omega
      intro v' w2 hown' hg _
      have kg : Keeps (fun k => base ≤ k) w w2 := Keeps.trans (kr.alloc _) ⟨hg.os, hg.tape, hg.output, hg.size, fun k hk hn => hg.block k hk (fun e => hn (by have e' : some k = some g := e; injection e' with e'; omega))⟩
      have hb2 : w2.heap[w.heap.size]? = some (.cells #[.int .i64 0, .int .i64 0, .int .i64 0, .int .i64 0, .bool false, .int .i64 0, .int .i64 0, .int .i64 0, .int .i64 0, .int .i64 0, .string ⟨#[]⟩, .bool false, .int .i64 0, .int .i64 0] 79 (0, 0)) := (hg.block _ (by have := heap_lt hb; simp; omega) (fun e => hgne (by have e' : some w.heap.size = some g := e; injection e'))).trans (heap_alloc_keep hb _)
      have ho : w2.ownsRow base 9 1 v' (L ++ [[]]).length ((L ++ [[]]).map strV) := by
        have he : (L ++ [[]]).map strV = L.map strV ++ [strV []] := by simp
        rw [List.length_append, List.length_singleton, he]
        exact hown'
      have hS2 : Hid (SameWords ws (L ++ [[]])) := hS.out.more
      obtain ⟨g2, cap2, rfl⟩ := Joins.ownsRow_form ho (by simp)
      go_wp2
      go_roundw
      case rel => exact ⟨L ++ [[]], by simp, ho, hb2, kg, hS2⟩
      case measure => simp [rowLen]; omega
    · have h7i : ¬ (L.length : Int) < 7 := by omega
      have hcell : ∀ j, j < 7 → wr.cell? ⟨g, j, none⟩ = some (strV (Off.gw ws j)) := fun j hj => by
        rw [hown.cellAt j (by omega), List.getElem?_map, List.getElem?_eq_getElem (by omega : j < L.length), hS.out.at (by omega)]; rfl
      have C0 := hcell 0 (by omega)
      have C1 := hcell 1 (by omega)
      have C2 := hcell 2 (by omega)
      have C3 := hcell 3 (by omega)
      have C4 := hcell 4 (by omega)
      have C5 := hcell 5 (by omega)
      have L1 := hS.out.len 1
      have L2 := hS.out.len 2
      have L3 := hS.out.len 3
      have L4 := hS.out.len 4
      have L5 := hS.out.len 5
      have V := fun s w1 (h : s.length ≤ 1000000) => refValue_same s w1 h
      have n0 : 0 < L.length := hL
      have n1 : (1 : Int) < (L.length : Int) := by omega
      have n2 : (2 : Int) < (L.length : Int) := by omega
      have n3 : (2 : Int) ≤ (L.length : Int) := by omega
      have hb0 := Lib.cell_of_heap hb
      have hf0 := Lib.frozen_of_heap hb
      have hlt0 := heap_lt hb
      have ne0 : w.heap.size ≠ wr.heap.size := by omega
      have ne1 : ¬ wr.heap.size = w.heap.size := by omega
      have ne2 : ¬ g = wr.heap.size := by omega
      have hE1 : Env wr := hE.keeps kr fun k hk => Nat.le_trans h10 hk
      clear hS hcell hl h0
      rw [hw] at C0
      unfold Off.sCopy at C0
      have Hw := Lib.hid hw
      clear hw
      obtain ⟨y1, hy1⟩ : ∃ y, Off.gw ws 1 = y := ⟨_, rfl⟩
      rw [hy1] at C1 L1
      have Hy1 := Lib.hid hy1
      clear hy1
      obtain ⟨y2, hy2⟩ : ∃ y, Off.gw ws 2 = y := ⟨_, rfl⟩
      rw [hy2] at C2 L2
      have Hy2 := Lib.hid hy2
      clear hy2
      obtain ⟨y3, hy3⟩ : ∃ y, Off.gw ws 3 = y := ⟨_, rfl⟩
      rw [hy3] at C3 L3
      have Hy3 := Lib.hid hy3
      clear hy3
      obtain ⟨y4, hy4⟩ : ∃ y, Off.gw ws 4 = y := ⟨_, rfl⟩
      rw [hy4] at C4 L4
      have Hy4 := Lib.hid hy4
      clear hy4
      obtain ⟨y5, hy5⟩ : ∃ y, Off.gw ws 5 = y := ⟨_, rfl⟩
      rw [hy5] at C5 L5
      have Hy5 := Lib.hid hy5
      clear hy5
      go_wp2_with (go_at_call 69; refine (V _ _ (by assumption)).mono ?_; rintro e w8 ⟨rfl, rfl⟩)
      have v9 := heap_alloc_keep (heap_fill14 hb (.int .i64 4) (.int .i64 (Off.value y1)) (.int .i64 0) (.int .i64 0) (.bool true) (.int .i64 0) (.int .i64 0) (.int .i64 0) (.int .i64 0) (.int .i64 0) (.string ⟨#[]⟩) (.bool false) (.int .i64 0) (.int .i64 0)) (.cells #[.int .i64 4, .int .i64 (Off.value y1), .int .i64 0, .int .i64 0, .bool true, .int .i64 0, .int .i64 0, .int .i64 0, .int .i64 0, .int .i64 0, .string ⟨#[]⟩, .bool false, .int .i64 0, .int .i64 0] 79)
      refine bodyPost_ret (res_guess v9 rfl) rfl ⟨?_, (Keeps.fill14' kr hbw _ _ _ _ _ _ _ _ _ _ _ _ _ _).alloc _⟩
      rw [guess_copy_eq Hw.out, Hy1.out]
      first | done | rfl

set_option maxRecDepth 100000 in
set_option maxHeartbeats 4000000 in
theorem guess_do (v : Value) (base : Nat) (ws : List (List UInt8)) (w : World) (hE : Env w) (h10 : 10 ≤ base) (hown : w.ownsRow base 9 1 v ws.length (ws.map strV)) (h0 : 0 < ws.length)
    (hl : ∀ x ∈ ws, x.length ≤ 1000000) (hw : Off.gw ws 0 = Off.sDo) :
    Calls Tryz.prog 37 #[v] w (GuessPost base (Off.guess ws) w) := by
  obtain ⟨i0, hi, hz0, hz1, hz2⟩ := info_parts infoStr
  have kw : Keeps (fun k => base ≤ k) w (w.alloc (.cells #[.int .i64 0, .int .i64 0, .int .i64 0, .int .i64 0, .bool false, .int .i64 0, .int .i64 0, .int .i64 0, .int .i64 0, .int .i64 0, .string ⟨#[]⟩, .bool false, .int .i64 0, .int .i64 0] 79)) := (Keeps.refl _ _).alloc _
  have hown1 : (w.alloc (.cells #[.int .i64 0, .int .i64 0, .int .i64 0, .int .i64 0, .bool false, .int .i64 0, .int .i64 0, .int .i64 0, .int .i64 0, .int .i64 0, .string ⟨#[]⟩, .bool false, .int .i64 0, .int .i64 0] 79)).ownsRow base 9 1 v ws.length (ws.map strV) := hown.alloc _
  have hb1 : (w.alloc (.cells #[.int .i64 0, .int .i64 0, .int .i64 0, .int .i64 0, .bool false, .int .i64 0, .int .i64 0, .int .i64 0, .int .i64 0, .int .i64 0, .string ⟨#[]⟩, .bool false, .int .i64 0, .int .i64 0] 79)).heap[w.heap.size]? = some (.cells #[.int .i64 0, .int .i64 0, .int .i64 0, .int .i64 0, .bool false, .int .i64 0, .int .i64 0, .int .i64 0, .int .i64 0, .int .i64 0, .string ⟨#[]⟩, .bool false, .int .i64 0, .int .i64 0] 79 (0, 0)) := heap_alloc_new w _
  have hsw : Hid (SameWords ws ws) := ⟨fun _ => rfl, hl⟩
  have hbw : base ≤ w.heap.size := by
    obtain ⟨g, cap, rfl⟩ := Joins.ownsRow_form hown h0
    have := hown.lt g rfl; omega
  clear hown
  go_enter Tryz.func37, Tryz.ntmps37
  go_wp2
  generalize w.alloc (.cells #[.int .i64 0, .int .i64 0, .int .i64 0, .int .i64 0, .bool false, .int .i64 0, .int .i64 0, .int .i64 0, .int .i64 0, .int .i64 0, .string ⟨#[]⟩, .bool false, .int .i64 0, .int .i64 0] 79) = w1 at kw hown1 hb1 ⊢
  go_loopw [0] (fun u wr => ∃ L : List (List UInt8), 0 < L.length ∧ wr.ownsRow base 9 1 u L.length (L.map strV) ∧ wr.heap[w.heap.size]? = some (.cells #[.int .i64 0, .int .i64 0, .int .i64 0, .int .i64 0, .bool false, .int .i64 0, .int .i64 0, .int .i64 0, .int .i64 0, .int .i64 0, .string ⟨#[]⟩, .bool false, .int .i64 0, .int .i64 0] 79 (0, 0)) ∧ Keeps (fun k => base ≤ k) w wr ∧ Hid (SameWords ws L)) (fun u _ => 7 - rowLen u)
  case atStart => exact ⟨ws, h0, hown1, hb1, kw, hsw⟩
  case round =>
    clear hown1 hb1 kw hsw
    obtain ⟨L, hL, hown, hb, kr, hS⟩ := hrel
    obtain ⟨g, cap, rfl⟩ := Joins.ownsRow_form hown hL
    obtain ⟨hbg, hgs⟩ := hown.lt g rfl
    by_cases h7 : L.length < 7
    · have h7i : (L.length : Int) < 7 := by omega
      have hgne : w.heap.size ≠ g := by
        rintro rfl
        rcases hown.2 with ⟨h, _⟩ | ⟨g', cap', cur, h, _, hgg, _⟩
        · cases h
        · simp only [Value.slice.injEq, Option.some.injEq, Addr.mk.injEq, and_true, true_and] at h
          rw [← h.1, hb] at hgg
          simp at hgg
      go_wp2_with (at_builtin; refine wpList_append_own _ rfl _ _ 81 rfl base 9 i0 (.string ⟨#[]⟩) 1 16 Tryz.underlying81 hi hz0 hz1 hz2 rfl (by decide) _ _ _ rfl (hown.alloc _) _ 1 1 [strV []] rfl rfl (cells1 _ _) ?c2 ?c3 ?c4 ?c5 ?_)
      case c2 => intro u hu; simp at hu; subst hu; rfl
      case c3 => unfold maxLen; omega
      case c4 => omega
      case c5 => simp; omega
      intro v' w2 hown' hg _
      have kg : Keeps (fun k => base ≤ k) w w2 := Keeps.trans (kr.alloc _) ⟨hg.os, hg.tape, hg.output, hg.size, fun k hk hn => hg.block k hk (fun e => hn (by have e' : some k = some g := e; injection e' with e'; omega))⟩
      have hb2 : w2.heap[w.heap.size]? = some (.cells #[.int .i64 0, .int .i64 0, .int .i64 0, .int .i64 0, .bool false, .int .i64 0, .int .i64 0, .int .i64 0, .int .i64 0, .int .i64 0, .string ⟨#[]⟩, .bool false, .int .i64 0, .int .i64 0] 79 (0, 0)) := (hg.block _ (by have := heap_lt hb; simp; omega) (fun e => hgne (by have e' : some w.heap.size = some g := e; injection e'))).trans (heap_alloc_keep hb _)
      have ho : w2.ownsRow base 9 1 v' (L ++ [[]]).length ((L ++ [[]]).map strV) := by
        have he : (L ++ [[]]).map strV = L.map strV ++ [strV []] := by simp
        rw [List.length_append, List.length_singleton, he]
        exact hown'
      have hS2 : Hid (SameWords ws (L ++ [[]])) := hS.out.more
      obtain ⟨g2, cap2, rfl⟩ := Joins.ownsRow_form ho (by simp)
      go_wp2
      go_roundw
      case rel => exact ⟨L ++ [[]], by simp, ho, hb2, kg, hS2⟩
      case measure => simp [rowLen]; omega
    · have h7i : ¬ (L.length : Int) < 7 := by omega
      have hcell : ∀ j, j < 7 → wr.cell? ⟨g, j, none⟩ = some (strV (Off.gw ws j)) := fun j hj => by
        rw [hown.cellAt j (by omega), List.getElem?_map, List.getElem?_eq_getElem (by omega : j < L.length), hS.out.at (by omega)]; rfl
      have C0 := hcell 0 (by omega)
      have C1 := hcell 1 (by omega)
      have C2 := hcell 2 (by omega)
      have C3 := hcell 3 (by omega)
      have C4 := hcell 4 (by omega)
      have C5 := hcell 5 (by omega)
      have L1 := hS.out.len 1
      have L2 := hS.out.len 2
      have L3 := hS.out.len 3
      have L4 := hS.out.len 4
      have L5 := hS.out.len 5
      have V := fun s w1 (h : s.length ≤ 1000000) => refValue_same s w1 h
      have n0 : 0 < L.length := hL
      have n1 : (1 : Int) < (L.length : Int) := by omega
      have n2 : (2 : Int) < (L.length : Int) := by omega
      have n3 : (2 : Int) ≤ (L.length : Int) := by omega
      have hb0 := Lib.cell_of_heap hb
      have hf0 := Lib.frozen_of_heap hb
      have hlt0 := heap_lt hb
      have ne0 : w.heap.size ≠ wr.heap.size := by omega
      have ne1 : ¬ wr.heap.size = w.heap.size := by omega
      have ne2 : ¬ g = wr.heap.size := by omega
      have hE1 : Env wr := hE.keeps kr fun k hk => Nat.le_trans h10 hk
      clear hS hcell hl h0
      rw [hw] at C0
      unfold Off.sDo at C0
      have Hw := Lib.hid hw
      clear hw
      obtain ⟨y1, hy1⟩ : ∃ y, Off.gw ws 1 = y := ⟨_, rfl⟩
      rw [hy1] at C1 L1
      have Hy1 := Lib.hid hy1
      clear hy1
      obtain ⟨y2, hy2⟩ : ∃ y, Off.gw ws 2 = y := ⟨_, rfl⟩
      rw [hy2] at C2 L2
      have Hy2 := Lib.hid hy2
      clear hy2
      obtain ⟨y3, hy3⟩ : ∃ y, Off.gw ws 3 = y := ⟨_, rfl⟩
      rw [hy3] at C3 L3
      have Hy3 := Lib.hid hy3
      clear hy3
      obtain ⟨y4, hy4⟩ : ∃ y, Off.gw ws 4 = y := ⟨_, rfl⟩
      rw [hy4] at C4 L4
      have Hy4 := Lib.hid hy4
      clear hy4
      obtain ⟨y5, hy5⟩ : ∃ y, Off.gw ws 5 = y := ⟨_, rfl⟩
      rw [hy5] at C5 L5
      have Hy5 := Lib.hid hy5
      clear hy5
      have hcap : L.length ≤ cap := by
        rcases hown.2 with ⟨h, _⟩ | ⟨g', cap', cur, h, _, _, hc, _⟩
        · cases h
        · simp only [Value.slice.injEq, Option.some.injEq, Addr.mk.injEq, and_true, true_and] at h
          rw [h.2]; exact hc
      have cA := fun w1 h h2 => ask_any g 2 (L.length - 2) (cap - 2) y2 y3 y4 y5 w1 h h2
      generalize hc : Off.askW [y2, y3, y4, y5] = c at cA
      have Hc := Lib.hid hc
      clear hc
      obtain ⟨ck, ⟨cR, cN⟩, cp, cn, tx, cf, ⟨cR2, cN2⟩⟩ := c
      have hcap2 : 2 < cap := by omega
      have hA : AskAt g 2 (L.length - 2) y2 y3 y4 y5 wr := ⟨by omega, hgs, C2, C3, C4, C5, L3, L4, L5⟩
      go_wp2_with (go_at_call 69; refine (V _ _ (by assumption)).mono ?_; rintro e w8 ⟨rfl, rfl⟩)
      refine (cA _ (hE1.alloc _) (hA.no ((Keeps.refl No wr).alloc _))).mono ?_
      rintro e w9 ⟨rfl, k9⟩
      have x0 : w9.heap[w.heap.size]? = some (.cells #[.int .i64 0, .int .i64 0, .int .i64 0, .int .i64 0, .bool false, .int .i64 0, .int .i64 0, .int .i64 0, .int .i64 0, .int .i64 0, .string ⟨#[]⟩, .bool false, .int .i64 0, .int .i64 0] 79 (0, 0)) := k9.heap (heap_alloc_keep hb _) id
      have x1 : w9.heap[wr.heap.size]? = some (.cells #[.int .i64 1, .int .i64 (Off.value y1), .int .i64 0, .int .i64 0, .bool false, .int .i64 0, .int .i64 0, .int .i64 0, .int .i64 0, .int .i64 0, .string ⟨#[]⟩, .bool false, .int .i64 0, .int .i64 0] 79 (0, 0)) := k9.heap (heap_alloc_new wr _) id
      have K9 : Keeps (fun k => base ≤ k) w w9 := (kr.alloc _).no k9
      have g0 := Lib.cell_of_heap x0
      have f0 := Lib.frozen_of_heap x0
      have g1 := Lib.cell_of_heap x1
      have f1 := Lib.frozen_of_heap x1
      have hbr : base ≤ wr.heap.size := by omega
      clear hb0 hf0 hA cA hE1 k9
      go_wp2
      have z0 := (heap_set_ne (heap_set_ne (heap_set_ne (heap_set_ne (heap_set_ne (heap_set_ne (heap_set_ne (heap_set_ne (heap_set_ne x0 (j := 5) ne0 (.int .i64 ck)) (j := 6) ne0 (.int .i64 cR)) (j := 7) ne0 (.int .i64 cN)) (j := 8) ne0 (.int .i64 cp)) (j := 9) ne0 (.int .i64 cn)) (j := 10) ne0 (.string ⟨tx.toArray⟩)) (j := 11) ne0 (.bool cf)) (j := 12) ne0 (.int .i64 cR2)) (j := 13) ne0 (.int .i64 cN2))
      have v9 := heap_fill14 z0 (.int .i64 1) (.int .i64 (Off.value y1)) (.int .i64 0) (.int .i64 0) (.bool false) (.int .i64 ck) (.int .i64 cR) (.int .i64 cN) (.int .i64 cp) (.int .i64 cn) (.string ⟨tx.toArray⟩) (.bool cf) (.int .i64 cR2) (.int .i64 cN2)
      have s : ∀ {W : World} (j : Nat) (v : Value), Keeps (fun k => base ≤ k) w W → Keeps (fun k => base ≤ k) w (W.setCell ⟨wr.heap.size, j, none⟩ v) := fun {W} j v hh => hh.setCell (fun _ => hbr) v
      refine bodyPost_ret (res_guess v9 rfl) rfl ⟨?_, Keeps.fill14' (s 13 (.int .i64 cN2) (s 12 (.int .i64 cR2) (s 11 (.bool cf) (s 10 (.string ⟨tx.toArray⟩) (s 9 (.int .i64 cn) (s 8 (.int .i64 cp) (s 7 (.int .i64 cN) (s 6 (.int .i64 cR) (s 5 (.int .i64 ck) (K9)))))))))) hbw _ _ _ _ _ _ _ _ _ _ _ _ _ _⟩
      rw [guess_do_eq Hw.out, Hy1.out, askW_at, Hy2.out, Hy3.out, Hy4.out, Hy5.out, Hc.out]
      first | done | rfl

theorem guess_none_eq {ws : List (List UInt8)} (q0 : Off.gw ws 0 ≠ Off.sSync) (q1 : Off.gw ws 0 ≠ Off.sCompact) (q2 : Off.gw ws 0 ≠ Off.sStart) (q3 : Off.gw ws 0 ≠ Off.sDrop) (q4 : Off.gw ws 0 ≠ Off.sCrash) (q5 : Off.gw ws 0 ≠ Off.sTell) (q6 : Off.gw ws 0 ≠ Off.sDeliver) (q7 : Off.gw ws 0 ≠ Off.sCopy) (q8 : Off.gw ws 0 ≠ Off.sDo) : Off.guess ws = ⟨0, Off.value (Off.gw ws 1), 0, 0, false, .z⟩ := by
  unfold Off.guess
  simp only
  rw [if_neg q0, if_neg q1, if_neg q2, if_neg q3, if_neg q4, if_neg q5, if_neg q6, if_neg q7, if_neg q8]

set_option maxRecDepth 100000 in
set_option maxHeartbeats 4000000 in
theorem guess_none (v : Value) (base : Nat) (ws : List (List UInt8)) (w : World) (hE : Env w) (h10 : 10 ≤ base) (hown : w.ownsRow base 9 1 v ws.length (ws.map strV)) (h0 : 0 < ws.length)
    (hl : ∀ x ∈ ws, x.length ≤ 1000000) (q0 : Off.gw ws 0 ≠ Off.sSync) (q1 : Off.gw ws 0 ≠ Off.sCompact) (q2 : Off.gw ws 0 ≠ Off.sStart) (q3 : Off.gw ws 0 ≠ Off.sDrop) (q4 : Off.gw ws 0 ≠ Off.sCrash) (q5 : Off.gw ws 0 ≠ Off.sTell) (q6 : Off.gw ws 0 ≠ Off.sDeliver) (q7 : Off.gw ws 0 ≠ Off.sCopy) (q8 : Off.gw ws 0 ≠ Off.sDo) :
    Calls Tryz.prog 37 #[v] w (GuessPost base (Off.guess ws) w) := by
  obtain ⟨i0, hi, hz0, hz1, hz2⟩ := info_parts infoStr
  have kw : Keeps (fun k => base ≤ k) w (w.alloc (.cells #[.int .i64 0, .int .i64 0, .int .i64 0, .int .i64 0, .bool false, .int .i64 0, .int .i64 0, .int .i64 0, .int .i64 0, .int .i64 0, .string ⟨#[]⟩, .bool false, .int .i64 0, .int .i64 0] 79)) := (Keeps.refl _ _).alloc _
  have hown1 : (w.alloc (.cells #[.int .i64 0, .int .i64 0, .int .i64 0, .int .i64 0, .bool false, .int .i64 0, .int .i64 0, .int .i64 0, .int .i64 0, .int .i64 0, .string ⟨#[]⟩, .bool false, .int .i64 0, .int .i64 0] 79)).ownsRow base 9 1 v ws.length (ws.map strV) := hown.alloc _
  have hb1 : (w.alloc (.cells #[.int .i64 0, .int .i64 0, .int .i64 0, .int .i64 0, .bool false, .int .i64 0, .int .i64 0, .int .i64 0, .int .i64 0, .int .i64 0, .string ⟨#[]⟩, .bool false, .int .i64 0, .int .i64 0] 79)).heap[w.heap.size]? = some (.cells #[.int .i64 0, .int .i64 0, .int .i64 0, .int .i64 0, .bool false, .int .i64 0, .int .i64 0, .int .i64 0, .int .i64 0, .int .i64 0, .string ⟨#[]⟩, .bool false, .int .i64 0, .int .i64 0] 79 (0, 0)) := heap_alloc_new w _
  have hsw : Hid (SameWords ws ws) := ⟨fun _ => rfl, hl⟩
  have hbw : base ≤ w.heap.size := by
    obtain ⟨g, cap, rfl⟩ := Joins.ownsRow_form hown h0
    have := hown.lt g rfl; omega
  clear hown
  go_enter Tryz.func37, Tryz.ntmps37
  go_wp2
  generalize w.alloc (.cells #[.int .i64 0, .int .i64 0, .int .i64 0, .int .i64 0, .bool false, .int .i64 0, .int .i64 0, .int .i64 0, .int .i64 0, .int .i64 0, .string ⟨#[]⟩, .bool false, .int .i64 0, .int .i64 0] 79) = w1 at kw hown1 hb1 ⊢
  go_loopw [0] (fun u wr => ∃ L : List (List UInt8), 0 < L.length ∧ wr.ownsRow base 9 1 u L.length (L.map strV) ∧ wr.heap[w.heap.size]? = some (.cells #[.int .i64 0, .int .i64 0, .int .i64 0, .int .i64 0, .bool false, .int .i64 0, .int .i64 0, .int .i64 0, .int .i64 0, .int .i64 0, .string ⟨#[]⟩, .bool false, .int .i64 0, .int .i64 0] 79 (0, 0)) ∧ Keeps (fun k => base ≤ k) w wr ∧ Hid (SameWords ws L)) (fun u _ => 7 - rowLen u)
  case atStart => exact ⟨ws, h0, hown1, hb1, kw, hsw⟩
  case round =>
    clear hown1 hb1 kw hsw
    obtain ⟨L, hL, hown, hb, kr, hS⟩ := hrel
    obtain ⟨g, cap, rfl⟩ := Joins.ownsRow_form hown hL
    obtain ⟨hbg, hgs⟩ := hown.lt g rfl
    by_cases h7 : L.length < 7
    · have h7i : (L.length : Int) < 7 := by omega
      have hgne : w.heap.size ≠ g := by
        rintro rfl
        rcases hown.2 with ⟨h, _⟩ | ⟨g', cap', cur, h, _, hgg, _⟩
        · cases h
        · simp only [Value.slice.injEq, Option.some.injEq, Addr.mk.injEq, and_true, true_and] at h
          rw [← h.1, hb] at hgg
          simp at hgg
      go_wp2_with (at_builtin; refine wpList_append_own _ rfl _ _ 81 rfl base 9 i0 (.string ⟨#[]⟩) 1 16 Tryz.underlying81 hi hz0 hz1 hz2 rfl (by decide) _ _ _ rfl (hown.alloc _) _ 1 1 [strV []] rfl rfl (cells1 _ _) ?c2 ?c3 ?c4 ?c5 ?_)
      case c2 => intro u hu; simp at hu; subst hu; rfl
      case c3 => unfold maxLen; omega
      case c4 => omega
      case c5 => simp; omega
      intro v' w2 hown' hg _
      have kg : Keeps (fun k => base ≤ k) w w2 := Keeps.trans (kr.alloc _) ⟨hg.os, hg.tape, hg.output, hg.size, fun k hk hn => hg.block k hk (fun e => hn (by have e' : some k = some g := e; injection e' with e'; omega))⟩
      have hb2 : w2.heap[w.heap.size]? = some (.cells #[.int .i64 0, .int .i64 0, .int .i64 0, .int .i64 0, .bool false, .int .i64 0, .int .i64 0, .int .i64 0, .int .i64 0, .int .i64 0, .string ⟨#[]⟩, .bool false, .int .i64 0, .int .i64 0] 79 (0, 0)) := (hg.block _ (by have := heap_lt hb; simp; omega) (fun e => hgne (by have e' : some w.heap.size = some g := e; injection e'))).trans (heap_alloc_keep hb _)
      have ho : w2.ownsRow base 9 1 v' (L ++ [[]]).length ((L ++ [[]]).map strV) := by
        have he : (L ++ [[]]).map strV = L.map strV ++ [strV []] := by simp
        rw [List.length_append, List.length_singleton, he]
        exact hown'
      have hS2 : Hid (SameWords ws (L ++ [[]])) := hS.out.more
      obtain ⟨g2, cap2, rfl⟩ := Joins.ownsRow_form ho (by simp)
      go_wp2
      go_roundw
      case rel => exact ⟨L ++ [[]], by simp, ho, hb2, kg, hS2⟩
      case measure => simp [rowLen]; omega
    · have h7i : ¬ (L.length : Int) < 7 := by omega
      have hcell : ∀ j, j < 7 → wr.cell? ⟨g, j, none⟩ = some (strV (Off.gw ws j)) := fun j hj => by
        rw [hown.cellAt j (by omega), List.getElem?_map, List.getElem?_eq_getElem (by omega : j < L.length), hS.out.at (by omega)]; rfl
      have C0 := hcell 0 (by omega)
      have C1 := hcell 1 (by omega)
      have C2 := hcell 2 (by omega)
      have C3 := hcell 3 (by omega)
      have C4 := hcell 4 (by omega)
      have C5 := hcell 5 (by omega)
      have L1 := hS.out.len 1
      have L2 := hS.out.len 2
      have L3 := hS.out.len 3
      have L4 := hS.out.len 4
      have L5 := hS.out.len 5
      have V := fun s w1 (h : s.length ≤ 1000000) => refValue_same s w1 h
      have n0 : 0 < L.length := hL
      have n1 : (1 : Int) < (L.length : Int) := by omega
      have n2 : (2 : Int) < (L.length : Int) := by omega
      have n3 : (2 : Int) ≤ (L.length : Int) := by omega
      have hb0 := Lib.cell_of_heap hb
      have hf0 := Lib.frozen_of_heap hb
      have hlt0 := heap_lt hb
      have ne0 : w.heap.size ≠ wr.heap.size := by omega
      have ne1 : ¬ wr.heap.size = w.heap.size := by omega
      have ne2 : ¬ g = wr.heap.size := by omega
      have hE1 : Env wr := hE.keeps kr fun k hk => Nat.le_trans h10 hk
      clear hS hcell hl h0
      have Hq := Lib.hid (guess_none_eq q0 q1 q2 q3 q4 q5 q6 q7 q8)
      have r0 : (Off.gw ws 0 == [115, 121, 110, 99]) = false := beq_false_of_ne q0
      have r1 : (Off.gw ws 0 == [99, 111, 109, 112, 97, 99, 116]) = false := beq_false_of_ne q1
      have r2 : (Off.gw ws 0 == [115, 116, 97, 114, 116]) = false := beq_false_of_ne q2
      have r3 : (Off.gw ws 0 == [100, 114, 111, 112]) = false := beq_false_of_ne q3
      have r4 : (Off.gw ws 0 == [99, 114, 97, 115, 104]) = false := beq_false_of_ne q4
      have r5 : (Off.gw ws 0 == [116, 101, 108, 108]) = false := beq_false_of_ne q5
      have r6 : (Off.gw ws 0 == [100, 101, 108, 105, 118, 101, 114]) = false := beq_false_of_ne q6
      have r7 : (Off.gw ws 0 == [99, 111, 112, 121]) = false := beq_false_of_ne q7
      have r8 : (Off.gw ws 0 == [100, 111]) = false := beq_false_of_ne q8
      clear q0 q1 q2 q3 q4 q5 q6 q7 q8
      generalize Off.gw ws 0 = y0 at C0 r0 r1 r2 r3 r4 r5 r6 r7 r8
      obtain ⟨y1, hy1⟩ : ∃ y, Off.gw ws 1 = y := ⟨_, rfl⟩
      rw [hy1] at C1 L1
      have Hy1 := Lib.hid hy1
      clear hy1
      obtain ⟨y2, hy2⟩ : ∃ y, Off.gw ws 2 = y := ⟨_, rfl⟩
      rw [hy2] at C2 L2
      have Hy2 := Lib.hid hy2
      clear hy2
      obtain ⟨y3, hy3⟩ : ∃ y, Off.gw ws 3 = y := ⟨_, rfl⟩
      rw [hy3] at C3 L3
      have Hy3 := Lib.hid hy3
      clear hy3
      obtain ⟨y4, hy4⟩ : ∃ y, Off.gw ws 4 = y := ⟨_, rfl⟩
      rw [hy4] at C4 L4
      have Hy4 := Lib.hid hy4
      clear hy4
      obtain ⟨y5, hy5⟩ : ∃ y, Off.gw ws 5 = y := ⟨_, rfl⟩
      rw [hy5] at C5 L5
      have Hy5 := Lib.hid hy5
      clear hy5
      go_wp2_with (go_at_call 69; refine (V _ _ (by assumption)).mono ?_; rintro e w8 ⟨rfl, rfl⟩)
      have v9 := heap_alloc_keep (heap_fill14 hb (.int .i64 0) (.int .i64 (Off.value y1)) (.int .i64 0) (.int .i64 0) (.bool false) (.int .i64 0) (.int .i64 0) (.int .i64 0) (.int .i64 0) (.int .i64 0) (.string ⟨#[]⟩) (.bool false) (.int .i64 0) (.int .i64 0)) (.cells #[.int .i64 0, .int .i64 (Off.value y1), .int .i64 0, .int .i64 0, .bool false, .int .i64 0, .int .i64 0, .int .i64 0, .int .i64 0, .int .i64 0, .string ⟨#[]⟩, .bool false, .int .i64 0, .int .i64 0] 79)
      refine bodyPost_ret (res_guess v9 rfl) rfl ⟨?_, (Keeps.fill14' kr hbw _ _ _ _ _ _ _ _ _ _ _ _ _ _).alloc _⟩
      rw [Hq.out, Hy1.out]
      first | done | rfl

theorem guess_any (v : Value) (base : Nat) (ws : List (List UInt8)) (w : World) (hE : Env w) (h10 : 10 ≤ base) (hown : w.ownsRow base 9 1 v ws.length (ws.map strV)) (h0 : 0 < ws.length)
    (hl : ∀ x ∈ ws, x.length ≤ 1000000) :
    Calls Tryz.prog 37 #[v] w (GuessPost base (Off.guess ws) w) := by
  by_cases q0 : Off.gw ws 0 = Off.sSync
  · exact guess_sync v base ws w hE h10 hown h0 hl q0
  by_cases q1 : Off.gw ws 0 = Off.sCompact
  · exact guess_compact v base ws w hE h10 hown h0 hl q1
  by_cases q2 : Off.gw ws 0 = Off.sStart
  · exact guess_start v base ws w hE h10 hown h0 hl q2
  by_cases q3 : Off.gw ws 0 = Off.sDrop
  · exact guess_drop v base ws w hE h10 hown h0 hl q3
  by_cases q4 : Off.gw ws 0 = Off.sCrash
  · exact guess_crash v base ws w hE h10 hown h0 hl q4
  by_cases q5 : Off.gw ws 0 = Off.sTell
  · exact guess_tell v base ws w hE h10 hown h0 hl q5
  by_cases q6 : Off.gw ws 0 = Off.sDeliver
  · exact guess_deliver v base ws w hE h10 hown h0 hl q6
  by_cases q7 : Off.gw ws 0 = Off.sCopy
  · exact guess_copy v base ws w hE h10 hown h0 hl q7
  by_cases q8 : Off.gw ws 0 = Off.sDo
  · exact guess_do v base ws w hE h10 hown h0 hl q8
  exact guess_none v base ws w hE h10 hown h0 hl q0 q1 q2 q3 q4 q5 q6 q7 q8

end Go.Proofs.YtkpenijilnagjaaGreatDoor
