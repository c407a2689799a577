/- offshootref25.Show: events as a text. -/
import Derived.Test.YtkpenijilnagjaaGreatDoorRLine
import Derived.Test.YtkpenijilnagjaaGreatDoorEvAll
namespace Go.Proofs.YtkpenijilnagjaaGreatDoor
open Go.RowKit

theorem rline_yes {ev : Off.Ev} {w : World} (hE : Env w) (hF : EvFits ev) (h : Off.evOk ev = true) :
    Calls Tryz.prog 39 #[evV ev] w fun e w' => e = .returned (.tuple #[.string ⟨(Off.evLine ev).toArray⟩, .bool true]) ∧ Keeps No w w' :=
  (rline_any ev w hE hF).mono fun e w' hh => by
    obtain ⟨he, hk⟩ := hh
    rw [h, if_pos rfl] at he
    exact ⟨he, hk⟩
theorem rline_no {ev : Off.Ev} {w : World} (hE : Env w) (hF : EvFits ev) (h : Off.evOk ev = false) :
    Calls Tryz.prog 39 #[evV ev] w fun e w' => e = .returned (.tuple #[.string ⟨#[]⟩, .bool false]) ∧ Keeps No w w' :=
  (rline_any ev w hE hF).mono fun e w' hh => by
    obtain ⟨he, hk⟩ := hh
    rw [h, if_neg (by decide)] at he
    exact ⟨he, hk⟩

set_option maxRecDepth 100000 in
set_option maxHeartbeats 2000000 in
theorem refShowT_any (v : Value) (l : List Off.Ev) (w : World) (hE : Env w) (hv : EvLies v l w) (hin : ∀ e ∈ l, EvFits e) (hn : l.length ≤ 10000) :
    Calls Tryz.prog 15 #[v] w (ShowTPost w (Off.showL 0 l)) := by
  obtain ⟨a, c, rfl, ha⟩ := hv
  go_enter Tryz.func15, Tryz.ntmps15
  go_wp2
  go_loopw [4, 5] (fun s i wr => ∃ (k : Nat) (t : List UInt8), k ≤ l.length ∧ i = .int .i64 k ∧ s = .string ⟨t.toArray⟩ ∧ Hid (ShownTo l k t) ∧ t.length ≤ k * 100001001 ∧ Keeps No w wr) (fun _ i _ => l.length - (intOf i).toNat)
  case atStart => exact ⟨0, [], Nat.zero_le _, rfl, rfl, shown_start l, by simp, Keeps.refl _ _⟩
  case round =>
    obtain ⟨k, t, hk, rfl, rfl, hT, ht, kr⟩ := hrel
    by_cases hlt : k < l.length
    · obtain ⟨g, o, rfl, hg, hc⟩ := ha (fun e => by subst e; simp at hlt)
      have hf := hin l[k] (List.getElem_mem hlt)
      have hE1 := hE.no kr
      have hcell : ∀ i, i < 14 → wr.cell? ⟨g, o + k * 14 + i, none⟩ = (evCells l[k])[i]? := by
        intro i hi
        have h1 : i < (evCells l[k]).length := by rw [evCells_len]; exact hi
        rw [(kr.cell hg id), Nat.add_assoc, hc (k * 14 + i) ((evCells l[k])[i]'h1) ((flat_at l k i hlt hi).trans (List.getElem?_eq_getElem h1))]
        exact (List.getElem?_eq_getElem h1).symm
      have hlen := evLine_lt l[k] hf
      have hstep := fun h => Lib.hid (shown_step hT.out hlt h)
      have hstop := fun h => Lib.hid (shown_stop hT.out hlt h)
      have hY := fun h => rline_yes hE1 hf h
      have hN := fun h => rline_no hE1 hf h
      clear hT hc hin
      generalize l[k] = ev at hf hcell hY hN hlen hstep hstop
      obtain ⟨kd, en, eto, ek, ef, ⟨ck, ⟨R, N⟩, pp, n, tx, f, ⟨R2, N2⟩⟩⟩ := ev
      have x0 := hcell 0 (by decide); have x1 := hcell 1 (by decide); have x2 := hcell 2 (by decide); have x3 := hcell 3 (by decide); have x4 := hcell 4 (by decide); have x5 := hcell 5 (by decide); have x6 := hcell 6 (by decide)
      have x7 := hcell 7 (by decide); have x8 := hcell 8 (by decide); have x9 := hcell 9 (by decide); have x10 := hcell 10 (by decide); have x11 := hcell 11 (by decide); have x12 := hcell 12 (by decide); have x13 := hcell 13 (by decide)
      simp only [evCells, List.getElem?_cons_zero, List.getElem?_cons_succ, Nat.add_zero] at x0 x1 x2 x3 x4 x5 x6 x7 x8 x9 x10 x11 x12 x13
      clear hcell
      generalize hln : Off.evLine ⟨kd, en, eto, ek, ef, ⟨ck, ⟨R, N⟩, pp, n, tx, f, ⟨R2, N2⟩⟩⟩ = ln at *
      clear hln
      cases hok : Off.evOk ⟨kd, en, eto, ek, ef, ⟨ck, ⟨R, N⟩, pp, n, tx, f, ⟨R2, N2⟩⟩⟩ with
      | false =>
        have hN' := hN hok
        have hq := hstop hok
        clear hY hN hstep hstop hok
        go_wp2_with fail
        refine hN'.mono ?_
        rintro e w2 ⟨rfl, k2⟩
        go_wp2
        go_ret2
        exact ShowTPost.bad hq.out rfl (kr.trans k2)
      | true =>
        have hY' := hY hok
        have hq := hstep hok
        have m1 : ¬ 9223372036854775807 < ln.length + 1 := by omega
        have m2 : ¬ 9223372036854775807 < t.length + (ln.length + 1) := by omega
        have hc1 := bytes_snoc ln 10
        have hc2 := cat1 t (ln ++ [10])
        clear hY hN hstep hstop hok
        go_wp2_with fail
        refine hY'.mono ?_
        rintro e w2 ⟨rfl, k2⟩
        go_wp2
        go_roundw
        case rel => exact ⟨k + 1, t ++ (ln ++ [10]), by omega, by go_num, rfl, hq, by simp only [List.length_append, List.length_cons, List.length_nil]; omega, kr.trans k2⟩
        case measure => simp [intOf]; omega
    · obtain rfl : k = l.length := by omega
      have hq := Lib.hid (shown_end hT.out)
      clear hT
      go_wp2_with fail
      go_ret2
      exact ShowTPost.good hq.out rfl kr

end Go.Proofs.YtkpenijilnagjaaGreatDoor
