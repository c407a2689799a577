/- alive: a script that the document fixes. -/
import Derived.Test.YtkpenijilnagjaaDoorGreat
namespace Go.Proofs.YtkpenijilnagjaaDoor
open Go.RowKit

theorem rows_lie {w : World} {base : Nat} {v : Value} {l : List Off.Ev} (h : w.ownsRow base 38 14 v l.length (l.flatMap evCells)) : EvLies v l w := by
  have hown := h
  rcases h.2 with ⟨hv, hz⟩ | ⟨g, cap, cur, hv, _, hg, _⟩
  · have hl : l = [] := List.eq_nil_of_length_eq_zero hz
    subst hl
    exact ⟨none, 0, hv, fun e => absurd rfl e⟩
  · refine ⟨some ⟨g, 0, none⟩, cap, hv, fun _ => ⟨g, 0, rfl, heap_lt hg, fun j u hu => ?_⟩⟩
    have hadd : (⟨g, 0, none⟩ : Addr).add j = ⟨g, j, none⟩ := by unfold Addr.add; split <;> simp_all
    have := hown.cells (g := g) (by rw [hv]; rfl) j u hu
    rwa [hadd, ← Nat.zero_add j] at this

def sA : List UInt8 := [100, 111, 32, 48, 32, 110, 101, 119, 32, 105, 110, 32, 114, 111, 111, 116, 32, 34, 97, 34, 10, 116, 101, 108, 108, 32, 49, 32, 48, 10]
def sB : List UInt8 := [116, 101, 108, 108, 32, 49, 32, 48, 10, 116, 101, 108, 108, 32, 49]
def eA : Off.Ev := ⟨1, 0, 0, 0, false, ⟨1, ⟨0, 0⟩, 0, 0, [97], true, ⟨0, 0⟩⟩⟩
def eB : Off.Ev := ⟨3, 1, 0, 0, false, ⟨0, ⟨0, 0⟩, 0, 0, [], false, ⟨0, 0⟩⟩⟩
theorem lineA : Off.evLine eA = [100, 111, 32, 48, 32, 110, 101, 119, 32, 105, 110, 32, 114, 111, 111, 116, 32, 34, 97, 34] := by decide +kernel
theorem lineB : Off.evLine eB = [116, 101, 108, 108, 32, 49, 32, 48] := by decide +kernel
theorem okA : Off.evOk eA = true := by decide +kernel
theorem okB : Off.evOk eB = true := by decide +kernel
theorem showA : Off.showL 0 [eA, eB] = .ok sA := by
  rw [Off.showL, if_pos okA, Off.showL, if_pos okB, Off.showL, lineA, lineB]
  rfl
theorem parseA : Off.parseT sA = .ok [eA, eB] := by
  refine Off.show_parse (i := 0) ?_ showA
  intro e he
  simp only [List.mem_cons, List.not_mem_nil, or_false] at he
  rcases he with rfl | rfl
  · exact ⟨i64_zero, i64_zero, i64_zero, ⟨i64_zero, i64_zero⟩⟩
  · exact ⟨⟨by decide, by decide⟩, i64_zero, i64_zero, ⟨i64_zero, i64_zero⟩⟩
theorem parseB : Off.parseT sB = .error 2 := by
  have hp : Off.parseLine [116, 101, 108, 108, 32, 49, 32, 48] = some eB := by
    have := Off.parse_show (e := eB) ⟨⟨by decide, by decide⟩, i64_zero, i64_zero, ⟨i64_zero, i64_zero⟩⟩ okB
    rwa [lineB] at this
  show Off.parseL 0 [[116, 101, 108, 108, 32, 49, 32, 48], [116, 101, 108, 108, 32, 49]] = _
  rw [Off.parseL_cons (by simp), hp]
  rfl

set_option maxRecDepth 100000 in
set_option maxHeartbeats 2000000 in
theorem alive_any (w : World) (hE : Env w) :
    Calls Tryd.prog 5 #[] w fun e w' => e = .returned (.bool true) ∧ Keeps No w w' := by
  have hP := fun w1 (h : Env w1) => parseT_any sA w1 h (by decide) (by decide)
  have hQ := fun w1 (h : Env w1) => parseT_any sB w1 h (by decide) (by decide)
  rw [parseA] at hP
  rw [parseB] at hQ
  go_enter Tryd.func5, Tryd.ntmps5
  go_wp2_with fail
  refine (hP _ hE).mono ?_
  rintro e w1 ⟨⟨v, rfl, ho⟩, k1⟩
  have hE1 := hE.no k1
  have hl := rows_lie ho
  have hl1 := hl
  obtain ⟨g, o, c, rfl, hc⟩ := lies_cells hl (k := 0) (by decide)
  have hS := showT_any _ [eA, eB] w1 hE1 hl1 (by
    intro e he
    simp only [List.mem_cons, List.not_mem_nil, or_false] at he
    rcases he with rfl | rfl
    · exact ⟨i64_zero, i64_zero, i64_zero, ⟨i64_zero, i64_zero, i64_zero, i64_zero, i64_zero, i64_zero, by decide⟩⟩
    · exact ⟨⟨by decide, by decide⟩, i64_zero, i64_zero, ⟨i64_zero, i64_zero, i64_zero, i64_zero, i64_zero, i64_zero, by decide⟩⟩) (by decide)
  rw [showA] at hS
  go_wp2_with fail
  refine hS.mono ?_
  rintro e w2 ⟨rfl, k2⟩
  have hE2 := hE1.no k2
  go_wp2_with fail
  refine (hQ _ hE2).mono ?_
  rintro e w3 ⟨rfl, k3⟩
  have hl3 := (hl1.no k2).no k3
  have K3 := (k1.trans k2).trans k3
  go_wp2_with fail
  obtain ⟨g', o', c', h1, hc3⟩ := lies_cells hl3 (k := 0) (by decide)
  simp only [Value.slice.injEq, Option.some.injEq, Addr.mk.injEq, and_true, true_and] at h1
  obtain ⟨⟨h1a, h1b⟩, h1c⟩ := h1
  subst h1a h1b h1c
  have x0 : ∀ d os, (Sort.grow (redrawn w3 d) os).cell? ⟨g, o, none⟩ = some (.int .i64 1) := cell_regrown (hc3 0 (by decide))
  have x1 : ∀ d os, (Sort.grow (redrawn w3 d) os).cell? ⟨g, o + 1, none⟩ = some (.int .i64 0) := cell_regrown (hc3 1 (by decide))
  have x2 : ∀ d os, (Sort.grow (redrawn w3 d) os).cell? ⟨g, o + 2, none⟩ = some (.int .i64 0) := cell_regrown (hc3 2 (by decide))
  have x3 : ∀ d os, (Sort.grow (redrawn w3 d) os).cell? ⟨g, o + 3, none⟩ = some (.int .i64 0) := cell_regrown (hc3 3 (by decide))
  have x4 : ∀ d os, (Sort.grow (redrawn w3 d) os).cell? ⟨g, o + 4, none⟩ = some (.bool false) := cell_regrown (hc3 4 (by decide))
  have x5 : ∀ d os, (Sort.grow (redrawn w3 d) os).cell? ⟨g, o + 5, none⟩ = some (.int .i64 1) := cell_regrown (hc3 5 (by decide))
  have x6 : ∀ d os, (Sort.grow (redrawn w3 d) os).cell? ⟨g, o + 6, none⟩ = some (.int .i64 0) := cell_regrown (hc3 6 (by decide))
  have x7 : ∀ d os, (Sort.grow (redrawn w3 d) os).cell? ⟨g, o + 7, none⟩ = some (.int .i64 0) := cell_regrown (hc3 7 (by decide))
  have x8 : ∀ d os, (Sort.grow (redrawn w3 d) os).cell? ⟨g, o + 8, none⟩ = some (.int .i64 0) := cell_regrown (hc3 8 (by decide))
  have x9 : ∀ d os, (Sort.grow (redrawn w3 d) os).cell? ⟨g, o + 9, none⟩ = some (.int .i64 0) := cell_regrown (hc3 9 (by decide))
  have x10 : ∀ d os, (Sort.grow (redrawn w3 d) os).cell? ⟨g, o + 10, none⟩ = some (.string ⟨#[97]⟩) := cell_regrown (hc3 10 (by decide))
  have x11 : ∀ d os, (Sort.grow (redrawn w3 d) os).cell? ⟨g, o + 11, none⟩ = some (.bool true) := cell_regrown (hc3 11 (by decide))
  have x12 : ∀ d os, (Sort.grow (redrawn w3 d) os).cell? ⟨g, o + 12, none⟩ = some (.int .i64 0) := cell_regrown (hc3 12 (by decide))
  have x13 : ∀ d os, (Sort.grow (redrawn w3 d) os).cell? ⟨g, o + 13, none⟩ = some (.int .i64 0) := cell_regrown (hc3 13 (by decide))
  have cF : ∀ d os, Calls Tryd.prog 10 #[.int .i64 0, .string ⟨#[97]⟩] (Sort.grow (redrawn w3 d) os) fun e w'' => e = .returned (evV eA) ∧ ∃ p : Regrown, w'' = Sort.grow (redrawn w3 p.d) p.os :=
    fun d os => calls_regrown (fresh_any 0 [97] _)
  have qE := eqEvMax; have gE := guardEv
  clear hc hc3 hl3 hl hl1 ho hS hP hQ
  unfold sA
  refine wp_region_quiet_below (by kernel_rfl) (by kernel_rfl) ?_
  repeat (quiet_step (exact cF _ _))
  refine wpQuiet_nil ?_
  intro _ hw'
  obtain ⟨⟨dq, osq⟩, hw''⟩ := hw'
  subst hw''
  clear cF gE qE x0 x1 x2 x3 x4 x5 x6 x7 x8 x9 x10 x11 x12 x13
  go_wp2
  go_ret
  exact ⟨ret_bool (decide_eq_true rfl), K3.no (keeps_regrown w3 dq osq)⟩

end Go.Proofs.YtkpenijilnagjaaDoor
