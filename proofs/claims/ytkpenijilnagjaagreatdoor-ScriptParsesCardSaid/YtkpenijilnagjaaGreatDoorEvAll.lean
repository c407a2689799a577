/- The closure that parse defers: where the scanner has panicked, and where it has not. What the scanner has read fits: its numbers are ints, its text is not longer than the line. parse: the event of a line. A script's lines: split, parsed line by line, shown, joined. No program in sight. Parse: the events of a text. Show: events as a text. same: two rows of events, compared. Great, Fresh. alive: a script that the document fixes. What is plain about events and scripts: how long, how many, how great their numbers. -/
import Derived.Test.YtkpenijilnagjaaGreatDoorEvBase
import Derived.Defers
import Derived.Recover
import Derived.Laws.Pointers
import Derived.Test.YtkpenijilnagjaaGreatDoorShowBase
import Derived.Test.YtkpenijilnagjaaGreatDoorShow
import Derived.Test.YtkpenijilnagjaaGreatDoorScrEv
import Derived.Lib.SplitLaws
import Derived.Lib.Split
namespace Go.Proofs.YtkpenijilnagjaaGreatDoor
open Go.RowKit

theorem assert_wrong (v : Value) (w : World) : (Instr.typeAssert (.iface 135 v) 20 135 true).run Tryz.prog w = .ok (.tuple #[v, .bool true]) w := by
  simp [Instr.typeAssert, run_underlying Tryz.underlying135, go_sem]

set_option maxRecDepth 100000 in
set_option maxHeartbeats 2000000 in
theorem catch_idle (p q : Addr) (w : World) :
    CallsD Tryz.prog 67 #[.pointer (some p), .pointer (some q)] .returning w fun e u' w' => e = .returned (.tuple #[]) ∧ u' = .returning ∧ w' = w := by
  refine callsD_of_wpS Tryz.func67 rfl fun c₀ cs hu => ?_
  apply wpS_seq
  apply wpS_region
  simp [wpOpsS, go_sem, recoverD, hu, Tryz.ntmps67, Exit.thenS]
  refine wpS_of_wp ?_
  cases c₀
  simp only [show (#[Value.pointer (some p), Value.pointer (some q)] ++ (Array.replicate 10 undef).setIfInBounds 3 Value.nilIface : Array Value) = #[.pointer (some p), .pointer (some q), undef, undef, undef, .nilIface, undef, undef, undef, undef, undef, undef] from rfl]
  go_wp2
  simp [bodyPostS, results, Tryz.results67]

set_option maxRecDepth 100000 in
set_option maxHeartbeats 2000000 in
theorem catch_wrong (b q : Nat) (w : World) (hbq : b ≠ q) (hp : w.heap[b]? = some (.cells #[.int .i64 0, .int .i64 0, .int .i64 0, .int .i64 0, .bool false, .int .i64 0, .int .i64 0, .int .i64 0, .int .i64 0, .int .i64 0, .string ⟨#[]⟩, .bool false, .int .i64 0, .int .i64 0] 79 (0, 0))) (hq : w.heap[q]? = some (.cells #[.bool false] 4 (0, 0))) :
    CallsD Tryz.prog 67 #[.pointer (some ⟨b, 0, none⟩), .pointer (some ⟨q, 0, none⟩)] (.panicking wrongChain) w fun e u' w' => e = .returned (.tuple #[]) ∧ u' = .panicking [{ v := .iface 135 (.agg #[]), recovered := true }] ∧
        w'.heap[b]? = some (.cells #[.int .i64 0, .int .i64 0, .int .i64 0, .int .i64 0, .bool false, .int .i64 0, .int .i64 0, .int .i64 0, .int .i64 0, .int .i64 0, .string ⟨#[]⟩, .bool false, .int .i64 0, .int .i64 0] 79 (0, 0)) ∧ w'.heap[q]? = some (.cells #[.bool false] 4 (0, 0)) ∧ Keeps (fun k => k = b ∨ k = q) w w' := by
  refine callsD_of_wpS Tryz.func67 rfl fun c₀ cs hu => ?_
  apply wpS_seq
  apply wpS_region
  simp [wpOpsS, go_sem, recoverD, hu, Tryz.ntmps67, Exit.thenS, wrongChain]
  refine wpS_of_wp ?_
  cases c₀
  simp only [show ∀ v : Value, (#[Value.pointer (some ⟨b, 0, none⟩), Value.pointer (some ⟨q, 0, none⟩)] ++ (Array.replicate 10 undef).setIfInBounds 3 v : Array Value) = #[.pointer (some ⟨b, 0, none⟩), .pointer (some ⟨q, 0, none⟩), undef, undef, undef, v, undef, undef, undef, undef, undef, undef] from fun _ => rfl]
  have hp1 := heap_alloc_keep hp (.cells #[] 135)
  have hq1 := heap_alloc_keep hq (.cells #[] 135)
  have ce := Lib.cell_of_heap hp1
  have cq := Lib.cell_of_heap hq1
  have fe := Lib.frozen_of_heap hp1
  have fq := Lib.frozen_of_heap hq1
  have hta := assert_wrong
  go_wp2
  have HB := heap_set_ne (heap_fill14 hp1 (.int .i64 0) (.int .i64 0) (.int .i64 0) (.int .i64 0) (.bool false) (.int .i64 0) (.int .i64 0) (.int .i64 0) (.int .i64 0) (.int .i64 0) (.string ⟨#[]⟩) (.bool false) (.int .i64 0) (.int .i64 0)) (j := 0) hbq (.bool false)
  have HQ : ((((((((((((((((w.alloc (.cells #[] 135)).setCell ⟨b, 0, none⟩ (.int .i64 0)).setCell ⟨b, 1, none⟩ (.int .i64 0)).setCell ⟨b, 2, none⟩ (.int .i64 0)).setCell ⟨b, 3, none⟩ (.int .i64 0)).setCell ⟨b, 4, none⟩ (.bool false)).setCell ⟨b, 5, none⟩ (.int .i64 0)).setCell ⟨b, 6, none⟩ (.int .i64 0)).setCell ⟨b, 7, none⟩ (.int .i64 0)).setCell ⟨b, 8, none⟩ (.int .i64 0)).setCell ⟨b, 9, none⟩ (.int .i64 0)).setCell ⟨b, 10, none⟩ (.string ⟨#[]⟩)).setCell ⟨b, 11, none⟩ (.bool false)).setCell ⟨b, 12, none⟩ (.int .i64 0)).setCell ⟨b, 13, none⟩ (.int .i64 0)).setCell ⟨q, 0, none⟩ (.bool false)).heap[q]? = some (.cells #[.bool false] 4 (0, 0)) := heap_set (heap_set_ne (heap_set_ne (heap_set_ne (heap_set_ne (heap_set_ne (heap_set_ne (heap_set_ne (heap_set_ne (heap_set_ne (heap_set_ne (heap_set_ne (heap_set_ne (heap_set_ne (heap_set_ne hq1 (j := 0) (fun e => hbq e.symm) (.int .i64 0)) (j := 1) (fun e => hbq e.symm) (.int .i64 0)) (j := 2) (fun e => hbq e.symm) (.int .i64 0)) (j := 3) (fun e => hbq e.symm) (.int .i64 0)) (j := 4) (fun e => hbq e.symm) (.bool false)) (j := 5) (fun e => hbq e.symm) (.int .i64 0)) (j := 6) (fun e => hbq e.symm) (.int .i64 0)) (j := 7) (fun e => hbq e.symm) (.int .i64 0)) (j := 8) (fun e => hbq e.symm) (.int .i64 0)) (j := 9) (fun e => hbq e.symm) (.int .i64 0)) (j := 10) (fun e => hbq e.symm) (.string ⟨#[]⟩)) (j := 11) (fun e => hbq e.symm) (.bool false)) (j := 12) (fun e => hbq e.symm) (.int .i64 0)) (j := 13) (fun e => hbq e.symm) (.int .i64 0)) 0 (.bool false)
  have HK : Keeps (fun k => k = b ∨ k = q) w ((((((((((((((((w.alloc (.cells #[] 135)).setCell ⟨b, 0, none⟩ (.int .i64 0)).setCell ⟨b, 1, none⟩ (.int .i64 0)).setCell ⟨b, 2, none⟩ (.int .i64 0)).setCell ⟨b, 3, none⟩ (.int .i64 0)).setCell ⟨b, 4, none⟩ (.bool false)).setCell ⟨b, 5, none⟩ (.int .i64 0)).setCell ⟨b, 6, none⟩ (.int .i64 0)).setCell ⟨b, 7, none⟩ (.int .i64 0)).setCell ⟨b, 8, none⟩ (.int .i64 0)).setCell ⟨b, 9, none⟩ (.int .i64 0)).setCell ⟨b, 10, none⟩ (.string ⟨#[]⟩)).setCell ⟨b, 11, none⟩ (.bool false)).setCell ⟨b, 12, none⟩ (.int .i64 0)).setCell ⟨b, 13, none⟩ (.int .i64 0)).setCell ⟨q, 0, none⟩ (.bool false)) := (Keeps.setCell (Keeps.setCell (Keeps.setCell (Keeps.setCell (Keeps.setCell (Keeps.setCell (Keeps.setCell (Keeps.setCell (Keeps.setCell (Keeps.setCell (Keeps.setCell (Keeps.setCell (Keeps.setCell (Keeps.setCell (Keeps.setCell ((Keeps.refl (fun k => k = b ∨ k = q) w).alloc (.cells #[] 135)) (a := ⟨b, 0, none⟩) (fun _ => .inl rfl) (.int .i64 0)) (a := ⟨b, 1, none⟩) (fun _ => .inl rfl) (.int .i64 0)) (a := ⟨b, 2, none⟩) (fun _ => .inl rfl) (.int .i64 0)) (a := ⟨b, 3, none⟩) (fun _ => .inl rfl) (.int .i64 0)) (a := ⟨b, 4, none⟩) (fun _ => .inl rfl) (.bool false)) (a := ⟨b, 5, none⟩) (fun _ => .inl rfl) (.int .i64 0)) (a := ⟨b, 6, none⟩) (fun _ => .inl rfl) (.int .i64 0)) (a := ⟨b, 7, none⟩) (fun _ => .inl rfl) (.int .i64 0)) (a := ⟨b, 8, none⟩) (fun _ => .inl rfl) (.int .i64 0)) (a := ⟨b, 9, none⟩) (fun _ => .inl rfl) (.int .i64 0)) (a := ⟨b, 10, none⟩) (fun _ => .inl rfl) (.string ⟨#[]⟩)) (a := ⟨b, 11, none⟩) (fun _ => .inl rfl) (.bool false)) (a := ⟨b, 12, none⟩) (fun _ => .inl rfl) (.int .i64 0)) (a := ⟨b, 13, none⟩) (fun _ => .inl rfl) (.int .i64 0)) (a := ⟨q, 0, none⟩) (fun _ => .inr rfl) (.bool false))
  clear ce cq fe fq hp1 hq1 hp hq hta
  generalize ((((((((((((((((w.alloc (.cells #[] 135)).setCell ⟨b, 0, none⟩ (.int .i64 0)).setCell ⟨b, 1, none⟩ (.int .i64 0)).setCell ⟨b, 2, none⟩ (.int .i64 0)).setCell ⟨b, 3, none⟩ (.int .i64 0)).setCell ⟨b, 4, none⟩ (.bool false)).setCell ⟨b, 5, none⟩ (.int .i64 0)).setCell ⟨b, 6, none⟩ (.int .i64 0)).setCell ⟨b, 7, none⟩ (.int .i64 0)).setCell ⟨b, 8, none⟩ (.int .i64 0)).setCell ⟨b, 9, none⟩ (.int .i64 0)).setCell ⟨b, 10, none⟩ (.string ⟨#[]⟩)).setCell ⟨b, 11, none⟩ (.bool false)).setCell ⟨b, 12, none⟩ (.int .i64 0)).setCell ⟨b, 13, none⟩ (.int .i64 0)).setCell ⟨q, 0, none⟩ (.bool false)) = W at *
  simp [bodyPostS, results, Tryz.results67]
  exact ⟨HB, HQ, HK⟩

end Go.Proofs.YtkpenijilnagjaaGreatDoor

namespace Go.Proofs.YtkpenijilnagjaaGreatDoor
open Go.RowKit

theorem textLoop_len : ∀ (m : Nat) (acc s t r : List UInt8), s.length ≤ m → Off.textLoop acc s = some (t, r) → t.length ≤ acc.length + s.length
  | _, acc, [], t, r, _, h => by rw [Off.textLoop] at h; cases h
  | 0, acc, c :: s, t, r, hm, h => by simp at hm
  | m + 1, acc, c :: s, t, r, hm, h => by
    have ih := textLoop_len m
    rw [Off.textLoop.eq_def] at h
    simp only at h
    simp only [List.length_cons] at hm ⊢
    split at h
    · cases h; omega
    · split at h
      · split at h
        · rename_i a b r' 
          split at h
          · cases h
          · split at h
            · cases h
            · have := ih _ _ _ _ (by simp only [List.length_cons] at hm; omega) h
              simp only [List.length_append, List.length_cons, List.length_nil] at this ⊢
              omega
        · cases h
      · have := ih _ _ _ _ (by omega) h
        simp only [List.length_append, List.length_cons, List.length_nil] at this
        omega

theorem text_len {s t r : List UInt8} (h : Off.text s = some (t, r)) : t.length ≤ s.length := by
  unfold Off.text at h
  split at h
  · have := textLoop_len _ _ _ _ _ (Nat.le_refl _) h
    simp only [List.length_cons, List.length_nil] at this ⊢
    omega
  · cases h

theorem number_in {s r : List UInt8} {n : Int} (h : Off.number s = some (n, r)) : Off.I64 n := by
  unfold Off.number at h
  split at h
  · cases h
  · rename_i v hv
    split at h
    · cases h
      unfold Off.atoiV at hv
      split at hv
      · rename_i u hu; cases hv; exact Lib.atoiAll_bounds hu
      · cases hv
    · cases h
theorem block_in {s r : List UInt8} {i : Off.Bid} (h : Off.block s = some (i, r)) : Off.I64 i.R ∧ Off.I64 i.N := by
  unfold Off.block at h
  cases hh : Off.readId (Off.word s).1 with
  | none => rw [hh] at h; cases h
  | some j => rw [hh] at h; simp at h; rw [← h.1]; exact readId_in hh

theorem i64_zero : Off.I64 0 := ⟨by decide, by decide⟩

theorem command_fits {s r : List UInt8} {c : Off.Cmd} (hs : s.length ≤ 1000000) (h : Off.command s = some (c, r)) : CmdFits c := by
  have hz := i64_zero
  have hb : (Off.word s).2.length ≤ s.length := behind_le 32 s
  unfold Off.command at h
  generalize (Off.word s).2 = s0 at h hb
  unfold Off.commandOf at h
  split at h
  · obtain ⟨⟨f, s1⟩, h1, h⟩ := Option.bind_eq_some_iff.1 h
    obtain ⟨⟨b, s2⟩, h2, h⟩ := Option.bind_eq_some_iff.1 h
    obtain ⟨⟨t, s3⟩, h3, h⟩ := Option.bind_eq_some_iff.1 h
    cases h
    have a1 := in_rest h1; have a2 := block_rest h2; have a3 := text_len h3
    exact ⟨(block_in h2).1, (block_in h2).2, hz, hz, hz, hz, by simp only; omega⟩
  split at h
  · obtain ⟨⟨b, s1⟩, h1, h⟩ := Option.bind_eq_some_iff.1 h
    obtain ⟨⟨p, s2⟩, h2, h⟩ := Option.bind_eq_some_iff.1 h
    obtain ⟨⟨t, s3⟩, h3, h⟩ := Option.bind_eq_some_iff.1 h
    cases h
    have a1 := block_rest h1; have a2 := number_rest h2; have a3 := text_len h3
    exact ⟨(block_in h1).1, (block_in h1).2, hz, hz, number_in h2, hz, by simp only; omega⟩
  split at h
  · obtain ⟨⟨b, s1⟩, h1, h⟩ := Option.bind_eq_some_iff.1 h
    obtain ⟨⟨p, s2⟩, h2, h⟩ := Option.bind_eq_some_iff.1 h
    obtain ⟨⟨n, s3⟩, h3, h⟩ := Option.bind_eq_some_iff.1 h
    cases h
    exact ⟨(block_in h1).1, (block_in h1).2, hz, hz, number_in h2, number_in h3, by simp⟩
  split at h
  · obtain ⟨⟨b, s1⟩, h1, h⟩ := Option.bind_eq_some_iff.1 h
    obtain ⟨⟨p, s2⟩, h2, h⟩ := Option.bind_eq_some_iff.1 h
    cases h
    exact ⟨(block_in h1).1, (block_in h1).2, hz, hz, number_in h2, hz, by simp⟩
  split at h
  · obtain ⟨⟨f, s1⟩, h1, h⟩ := Option.bind_eq_some_iff.1 h
    obtain ⟨⟨b, s2⟩, h2, h⟩ := Option.bind_eq_some_iff.1 h
    obtain ⟨⟨o, s3⟩, h3, h⟩ := Option.bind_eq_some_iff.1 h
    cases h
    exact ⟨(block_in h2).1, (block_in h2).2, (block_in h3).1, (block_in h3).2, hz, hz, by simp⟩
  split at h
  · obtain ⟨⟨b, s1⟩, h1, h⟩ := Option.bind_eq_some_iff.1 h
    obtain ⟨⟨o, s2⟩, h2, h⟩ := Option.bind_eq_some_iff.1 h
    obtain ⟨⟨t, s3⟩, h3, h⟩ := Option.bind_eq_some_iff.1 h
    cases h
    have a1 := block_rest h1; have a2 := block_rest h2; have a3 := text_len h3
    exact ⟨(block_in h1).1, (block_in h1).2, (block_in h2).1, (block_in h2).2, hz, hz, by simp only; omega⟩
  split at h
  · cases h
  · obtain ⟨⟨b, s1⟩, h1, h⟩ := Option.bind_eq_some_iff.1 h
    cases h
    exact ⟨(block_in h1).1, (block_in h1).2, hz, hz, hz, hz, by simp⟩

theorem cmdFits_zero : CmdFits Off.Cmd.z := ⟨i64_zero, i64_zero, i64_zero, i64_zero, i64_zero, i64_zero, by decide⟩

theorem event_fits {l r : List UInt8} {ev : Off.Ev} (hl : l.length ≤ 1000000) (h : Off.event l = some (ev, r)) : EvFits ev := by
  have hz := i64_zero
  have hc := cmdFits_zero
  have hb : (Off.word l).2.length ≤ l.length := behind_le 32 l
  unfold Off.event at h
  obtain ⟨⟨n, s1⟩, h1, h⟩ := Option.bind_eq_some_iff.1 h
  have hn := number_in h1
  have hr := number_rest h1
  simp only at h
  unfold Off.eventOf at h
  split at h
  · obtain ⟨⟨c, s2⟩, h2, h⟩ := Option.bind_eq_some_iff.1 h
    cases h
    exact ⟨hn, hz, hz, command_fits (by omega) h2⟩
  split at h
  · cases h; exact ⟨hn, hz, hz, hc⟩
  split at h
  · cases h; exact ⟨hn, hz, hz, hc⟩
  split at h
  · cases h; exact ⟨hn, hz, hz, hc⟩
  split at h
  · cases h; exact ⟨hn, hz, hz, hc⟩
  split at h
  · obtain ⟨⟨k, s2⟩, h2, h⟩ := Option.bind_eq_some_iff.1 h
    cases h; exact ⟨hn, hz, number_in h2, hc⟩
  split at h
  · obtain ⟨⟨k, s2⟩, h2, h⟩ := Option.bind_eq_some_iff.1 h
    cases h; exact ⟨hn, number_in h2, hz, hc⟩
  split at h
  · cases h; exact ⟨hn, hz, hz, hc⟩
  split at h
  · cases h; exact ⟨hn, hz, hz, hc⟩
  · cases h

end Go.Proofs.YtkpenijilnagjaaGreatDoor

namespace Go.Proofs.YtkpenijilnagjaaGreatDoor
open Go.RowKit

/-- how parse ends -/
def ParsePost (w : World) (r : Option Off.Ev) (e : Ending) (w' : World) : Prop :=
  (match r with
    | some ev => e = .returned (.tuple #[evV ev, .bool true])
    | none => ∃ ev : Off.Ev, e = .returned (.tuple #[evV ev, .bool false])) ∧ Keeps No w w'
theorem ParsePost.bad {w w' : World} {r : Option Off.Ev} {v : Value} (ev : Off.Ev) (hv : v = evV ev) (h : r = none) (k : Keeps No w w') : ParsePost w r (.returned (.tuple #[v, .bool false])) w' := by
  subst h hv; exact ⟨⟨ev, rfl⟩, k⟩
theorem ParsePost.good {w w' : World} {r : Option Off.Ev} {ev : Off.Ev} (h : r = some ev) (k : Keeps No w w') : ParsePost w r (.returned (.tuple #[evV ev, .bool true])) w' := by
  subst h; exact ⟨rfl, k⟩

set_option maxRecDepth 100000 in
set_option maxHeartbeats 2000000 in
theorem parse_any (l : List UInt8) (w : World) (hE : Env w) (hl : l.length ≤ 1000000) :
    Calls Tryz.prog 36 #[.string ⟨l.toArray⟩] w (ParsePost w (Off.parseLine l)) := by
  have hmf : ∀ (fn : Fn) (first cap : Array Value) (w : World), (Instr.makeFunc fn first cap).run Tryz.prog w = .ok (.func fn first cap) w := fun _ _ _ _ => rfl
  have hz := hE.size
  obtain ⟨b0, q0, s0⟩ := three_boxes w (.cells #[.int .i64 0, .int .i64 0, .int .i64 0, .int .i64 0, .bool false, .int .i64 0, .int .i64 0, .int .i64 0, .int .i64 0, .int .i64 0, .string ⟨#[]⟩, .bool false, .int .i64 0, .int .i64 0] 79) (.cells #[.bool false] 4) (.cells #[.string ⟨l.toArray⟩] 138)
  have hE0 : Env (((w.alloc (.cells #[.int .i64 0, .int .i64 0, .int .i64 0, .int .i64 0, .bool false, .int .i64 0, .int .i64 0, .int .i64 0, .int .i64 0, .int .i64 0, .string ⟨#[]⟩, .bool false, .int .i64 0, .int .i64 0] 79)).alloc (.cells #[.bool false] 4)).alloc (.cells #[.string ⟨l.toArray⟩] 138)) := ((hE.alloc _).alloc _).alloc _
  have k0 : Keeps No w (((w.alloc (.cells #[.int .i64 0, .int .i64 0, .int .i64 0, .int .i64 0, .bool false, .int .i64 0, .int .i64 0, .int .i64 0, .int .i64 0, .int .i64 0, .string ⟨#[]⟩, .bool false, .int .i64 0, .int .i64 0] 79)).alloc (.cells #[.bool false] 4)).alloc (.cells #[.string ⟨l.toArray⟩] 138)) := (((Keeps.refl No w).alloc _).alloc _).alloc _
  go_enter_defers Tryz.func36, Tryz.ntmps36
  go_wp2_with fail
  generalize ((w.alloc (.cells #[.int .i64 0, .int .i64 0, .int .i64 0, .int .i64 0, .bool false, .int .i64 0, .int .i64 0, .int .i64 0, .int .i64 0, .int .i64 0, .string ⟨#[]⟩, .bool false, .int .i64 0, .int .i64 0] 79)).alloc (.cells #[.bool false] 4)).alloc (.cells #[.string ⟨l.toArray⟩] 138) = W0 at *
  have hv := event_any (w.heap.size + 1 + 1) l W0 hE0 s0 (by omega) (by omega)
  cases h : Off.event l with
  | none =>
    rw [h] at hv
    go_wp2_with (go_at_call 68; refine hv.mono ?_; rintro e w1 ⟨k1, he⟩; replace he : e = .panicked wrongChain := he; subst he)
    have b1 := k1.heap b0 (show ¬ At1 (w.heap.size + 1 + 1) w.heap.size by unfold At1; omega)
    have q1 := k1.heap q0 (show ¬ At1 (w.heap.size + 1 + 1) (w.heap.size + 1) by unfold At1; omega)
    have K1 : Keeps No w w1 := k0.step k1 fun k e hlt => by unfold At1 at e; omega
    have hP : Off.parseLine l = none := by unfold Off.parseLine; rw [h]
    refine leaves_cons (f := 67) (args := #[.pointer (some ⟨w.heap.size, 0, none⟩), .pointer (some ⟨w.heap.size + 1, 0, none⟩)]) (by simp) (by simp [go_sem]) ?_
    refine (catch_wrong w.heap.size (w.heap.size + 1) w1 (by omega) b1 q1).mono ?_
    rintro e u' w2 ⟨rfl, rfl, b2, q2, k2⟩
    have K2 : Keeps No w w2 := K1.step k2 fun k e hlt => by omega
    have xb := Lib.cell_of_heap b2; have xq := Lib.cell_of_heap q2
    simp [Leaves, settle, results, Tryz.results36, go_sem, xb, xq]
    exact ParsePost.bad .z rfl hP K2
  | some p =>
    obtain ⟨⟨kd, en, eto, ek, ef, ⟨ck, ⟨R, N⟩, pp, n, t, f, ⟨R2, N2⟩⟩⟩, r⟩ := p
    have hf := event_fits hl h
    rw [h] at hv
    go_wp2_with (first
      | (go_at_call 68; refine hv.mono ?_; rintro e w1 ⟨k1, rfl, hs1⟩
         have b1 := k1.heap b0 (show ¬ At1 (w.heap.size + 1 + 1) w.heap.size by unfold At1; omega)
         have q1 := k1.heap q0 (show ¬ At1 (w.heap.size + 1 + 1) (w.heap.size + 1) by unfold At1; omega)
         have xb := Lib.cell_of_heap b1; have xf := Lib.frozen_of_heap b1; have xq := Lib.cell_of_heap q1; have yf := Lib.frozen_of_heap q1
         have K1 : Keeps No w w1 := k0.step k1 fun k e hlt => by unfold At1 at e; omega))
    have b2 := heap_fill14 b1 (.int .i64 kd) (.int .i64 en) (.int .i64 eto) (.int .i64 ek) (.bool ef) (.int .i64 ck) (.int .i64 R) (.int .i64 N) (.int .i64 pp) (.int .i64 n) (.string ⟨t.toArray⟩) (.bool f) (.int .i64 R2) (.int .i64 N2)
    have q2 := (heap_set_ne (heap_set_ne (heap_set_ne (heap_set_ne (heap_set_ne (heap_set_ne (heap_set_ne (heap_set_ne (heap_set_ne (heap_set_ne (heap_set_ne (heap_set_ne (heap_set_ne (heap_set_ne q1 (j := 0) (show w.heap.size + 1 ≠ w.heap.size by omega) (.int .i64 kd)) (j := 1) (show w.heap.size + 1 ≠ w.heap.size by omega) (.int .i64 en)) (j := 2) (show w.heap.size + 1 ≠ w.heap.size by omega) (.int .i64 eto)) (j := 3) (show w.heap.size + 1 ≠ w.heap.size by omega) (.int .i64 ek)) (j := 4) (show w.heap.size + 1 ≠ w.heap.size by omega) (.bool ef)) (j := 5) (show w.heap.size + 1 ≠ w.heap.size by omega) (.int .i64 ck)) (j := 6) (show w.heap.size + 1 ≠ w.heap.size by omega) (.int .i64 R)) (j := 7) (show w.heap.size + 1 ≠ w.heap.size by omega) (.int .i64 N)) (j := 8) (show w.heap.size + 1 ≠ w.heap.size by omega) (.int .i64 pp)) (j := 9) (show w.heap.size + 1 ≠ w.heap.size by omega) (.int .i64 n)) (j := 10) (show w.heap.size + 1 ≠ w.heap.size by omega) (.string ⟨t.toArray⟩)) (j := 11) (show w.heap.size + 1 ≠ w.heap.size by omega) (.bool f)) (j := 12) (show w.heap.size + 1 ≠ w.heap.size by omega) (.int .i64 R2)) (j := 13) (show w.heap.size + 1 ≠ w.heap.size by omega) (.int .i64 N2))
    have K2 := Keeps.fill14 K1 (b := w.heap.size) (Nat.le_refl _) (.int .i64 kd) (.int .i64 en) (.int .i64 eto) (.int .i64 ek) (.bool ef) (.int .i64 ck) (.int .i64 R) (.int .i64 N) (.int .i64 pp) (.int .i64 n) (.string ⟨t.toArray⟩) (.bool f) (.int .i64 R2) (.int .i64 N2)
    have s2 := Scan.fill14 hs1 (b := w.heap.size) (by omega) (.int .i64 kd) (.int .i64 en) (.int .i64 eto) (.int .i64 ek) (.bool ef) (.int .i64 ck) (.int .i64 R) (.int .i64 N) (.int .i64 pp) (.int .i64 n) (.string ⟨t.toArray⟩) (.bool f) (.int .i64 R2) (.int .i64 N2)
    clear xb xf xq yf
    generalize ((((((((((((((w1.setCell ⟨w.heap.size, 0, none⟩ (.int .i64 kd)).setCell ⟨w.heap.size, 1, none⟩ (.int .i64 en)).setCell ⟨w.heap.size, 2, none⟩ (.int .i64 eto)).setCell ⟨w.heap.size, 3, none⟩ (.int .i64 ek)).setCell ⟨w.heap.size, 4, none⟩ (.bool ef)).setCell ⟨w.heap.size, 5, none⟩ (.int .i64 ck)).setCell ⟨w.heap.size, 6, none⟩ (.int .i64 R)).setCell ⟨w.heap.size, 7, none⟩ (.int .i64 N)).setCell ⟨w.heap.size, 8, none⟩ (.int .i64 pp)).setCell ⟨w.heap.size, 9, none⟩ (.int .i64 n)).setCell ⟨w.heap.size, 10, none⟩ (.string ⟨t.toArray⟩)).setCell ⟨w.heap.size, 11, none⟩ (.bool f)).setCell ⟨w.heap.size, 12, none⟩ (.int .i64 R2)).setCell ⟨w.heap.size, 13, none⟩ (.int .i64 N2)) = w2 at *
    have hP : Off.parseLine l = if Off.evOk ⟨kd, en, eto, ek, ef, ⟨ck, ⟨R, N⟩, pp, n, t, f, ⟨R2, N2⟩⟩⟩ = true ∧ Off.evLine ⟨kd, en, eto, ek, ef, ⟨ck, ⟨R, N⟩, pp, n, t, f, ⟨R2, N2⟩⟩⟩ = l then some ⟨kd, en, eto, ek, ef, ⟨ck, ⟨R, N⟩, pp, n, t, f, ⟨R2, N2⟩⟩⟩ else none := by unfold Off.parseLine; rw [h]
    have hS := show_any ⟨kd, en, eto, ek, ef, ⟨ck, ⟨R, N⟩, pp, n, t, f, ⟨R2, N2⟩⟩⟩ w2 (hE.no K2) hf
    have hps := s2.cell
    have HP := Lib.hid hP; clear hP
    have xq2 := Lib.cell_of_heap q2
    generalize hok : Off.evOk ⟨kd, en, eto, ek, ef, ⟨ck, ⟨R, N⟩, pp, n, t, f, ⟨R2, N2⟩⟩⟩ = ok at *
    generalize hln : Off.evLine ⟨kd, en, eto, ek, ef, ⟨ck, ⟨R, N⟩, pp, n, t, f, ⟨R2, N2⟩⟩⟩ = ln at *
    go_wp2_with (go_at_call 40; refine hS.mono ?_; rintro e w3 ⟨rfl, k3⟩
                 have b3 := k3.heap b2 id; have q3 := k3.heap q2 id
                 have xb3 := Lib.cell_of_heap b3; have xq3 := Lib.cell_of_heap q3; have zb3 := Lib.frozen_of_heap b3; have zq3 := Lib.frozen_of_heap q3)
    · have b4 := heap_set_ne (heap_fill14 b3 (.int .i64 kd) (.int .i64 en) (.int .i64 eto) (.int .i64 ek) (.bool ef) (.int .i64 ck) (.int .i64 R) (.int .i64 N) (.int .i64 pp) (.int .i64 n) (.string ⟨t.toArray⟩) (.bool f) (.int .i64 R2) (.int .i64 N2)) (j := 0) (show w.heap.size ≠ w.heap.size + 1 by omega) (.bool (ln == l))
      have q4 : (((((((((((((((w3.setCell ⟨w.heap.size, 0, none⟩ (.int .i64 kd)).setCell ⟨w.heap.size, 1, none⟩ (.int .i64 en)).setCell ⟨w.heap.size, 2, none⟩ (.int .i64 eto)).setCell ⟨w.heap.size, 3, none⟩ (.int .i64 ek)).setCell ⟨w.heap.size, 4, none⟩ (.bool ef)).setCell ⟨w.heap.size, 5, none⟩ (.int .i64 ck)).setCell ⟨w.heap.size, 6, none⟩ (.int .i64 R)).setCell ⟨w.heap.size, 7, none⟩ (.int .i64 N)).setCell ⟨w.heap.size, 8, none⟩ (.int .i64 pp)).setCell ⟨w.heap.size, 9, none⟩ (.int .i64 n)).setCell ⟨w.heap.size, 10, none⟩ (.string ⟨t.toArray⟩)).setCell ⟨w.heap.size, 11, none⟩ (.bool f)).setCell ⟨w.heap.size, 12, none⟩ (.int .i64 R2)).setCell ⟨w.heap.size, 13, none⟩ (.int .i64 N2)).setCell ⟨w.heap.size + 1, 0, none⟩ (.bool (ln == l))).heap[w.heap.size + 1]? = some (.cells #[.bool (ln == l)] 4 (0, 0)) := heap_set (heap_set_ne (heap_set_ne (heap_set_ne (heap_set_ne (heap_set_ne (heap_set_ne (heap_set_ne (heap_set_ne (heap_set_ne (heap_set_ne (heap_set_ne (heap_set_ne (heap_set_ne (heap_set_ne q3 (j := 0) (show w.heap.size + 1 ≠ w.heap.size by omega) (.int .i64 kd)) (j := 1) (show w.heap.size + 1 ≠ w.heap.size by omega) (.int .i64 en)) (j := 2) (show w.heap.size + 1 ≠ w.heap.size by omega) (.int .i64 eto)) (j := 3) (show w.heap.size + 1 ≠ w.heap.size by omega) (.int .i64 ek)) (j := 4) (show w.heap.size + 1 ≠ w.heap.size by omega) (.bool ef)) (j := 5) (show w.heap.size + 1 ≠ w.heap.size by omega) (.int .i64 ck)) (j := 6) (show w.heap.size + 1 ≠ w.heap.size by omega) (.int .i64 R)) (j := 7) (show w.heap.size + 1 ≠ w.heap.size by omega) (.int .i64 N)) (j := 8) (show w.heap.size + 1 ≠ w.heap.size by omega) (.int .i64 pp)) (j := 9) (show w.heap.size + 1 ≠ w.heap.size by omega) (.int .i64 n)) (j := 10) (show w.heap.size + 1 ≠ w.heap.size by omega) (.string ⟨t.toArray⟩)) (j := 11) (show w.heap.size + 1 ≠ w.heap.size by omega) (.bool f)) (j := 12) (show w.heap.size + 1 ≠ w.heap.size by omega) (.int .i64 R2)) (j := 13) (show w.heap.size + 1 ≠ w.heap.size by omega) (.int .i64 N2)) 0 (.bool (ln == l))
      have K4 := Keeps.setNew (Keeps.fill14 (K2.trans k3) (b := w.heap.size) (Nat.le_refl _) (.int .i64 kd) (.int .i64 en) (.int .i64 eto) (.int .i64 ek) (.bool ef) (.int .i64 ck) (.int .i64 R) (.int .i64 N) (.int .i64 pp) (.int .i64 n) (.string ⟨t.toArray⟩) (.bool f) (.int .i64 R2) (.int .i64 N2)) (b := w.heap.size + 1) (j := 0) (by omega) (.bool (ln == l))
      clear xb3 xq3 zb3 zq3 b3 q3
      generalize (((((((((((((((w3.setCell ⟨w.heap.size, 0, none⟩ (.int .i64 kd)).setCell ⟨w.heap.size, 1, none⟩ (.int .i64 en)).setCell ⟨w.heap.size, 2, none⟩ (.int .i64 eto)).setCell ⟨w.heap.size, 3, none⟩ (.int .i64 ek)).setCell ⟨w.heap.size, 4, none⟩ (.bool ef)).setCell ⟨w.heap.size, 5, none⟩ (.int .i64 ck)).setCell ⟨w.heap.size, 6, none⟩ (.int .i64 R)).setCell ⟨w.heap.size, 7, none⟩ (.int .i64 N)).setCell ⟨w.heap.size, 8, none⟩ (.int .i64 pp)).setCell ⟨w.heap.size, 9, none⟩ (.int .i64 n)).setCell ⟨w.heap.size, 10, none⟩ (.string ⟨t.toArray⟩)).setCell ⟨w.heap.size, 11, none⟩ (.bool f)).setCell ⟨w.heap.size, 12, none⟩ (.int .i64 R2)).setCell ⟨w.heap.size, 13, none⟩ (.int .i64 N2)).setCell ⟨w.heap.size + 1, 0, none⟩ (.bool (ln == l))) = w4 at *
      have xb4 := Lib.cell_of_heap b4; have xq4 := Lib.cell_of_heap q4
      refine leaves_cons (f := 67) (args := #[.pointer (some ⟨w.heap.size, 0, none⟩), .pointer (some ⟨w.heap.size + 1, 0, none⟩)]) (by simp) (by simp [go_sem]) ?_
      refine (catch_idle ⟨w.heap.size, 0, none⟩ ⟨w.heap.size + 1, 0, none⟩ w4).mono ?_
      rintro e u' w5 ⟨rfl, rfl, rfl⟩
      simp [Leaves, settle, results, Tryz.results36, go_sem, xb4, xq4]
      by_cases hll : ln = l
      · have := HP.out
        rw [if_pos ⟨by assumption, hll⟩] at this
        rw [show (ln == l) = true from beq_iff_eq.2 hll]
        exact ParsePost.good this K4
      · have := HP.out
        rw [if_neg (fun e => hll e.2)] at this
        rw [show (ln == l) = false from beq_eq_false_iff_ne.2 hll]
        exact ParsePost.bad ⟨kd, en, eto, ek, ef, ⟨ck, ⟨R, N⟩, pp, n, t, f, ⟨R2, N2⟩⟩⟩ rfl this K4
    · have b4 := heap_set_ne (heap_fill14 b3 (.int .i64 kd) (.int .i64 en) (.int .i64 eto) (.int .i64 ek) (.bool ef) (.int .i64 ck) (.int .i64 R) (.int .i64 N) (.int .i64 pp) (.int .i64 n) (.string ⟨t.toArray⟩) (.bool f) (.int .i64 R2) (.int .i64 N2)) (j := 0) (show w.heap.size ≠ w.heap.size + 1 by omega) (.bool false)
      have q4 : (((((((((((((((w3.setCell ⟨w.heap.size, 0, none⟩ (.int .i64 kd)).setCell ⟨w.heap.size, 1, none⟩ (.int .i64 en)).setCell ⟨w.heap.size, 2, none⟩ (.int .i64 eto)).setCell ⟨w.heap.size, 3, none⟩ (.int .i64 ek)).setCell ⟨w.heap.size, 4, none⟩ (.bool ef)).setCell ⟨w.heap.size, 5, none⟩ (.int .i64 ck)).setCell ⟨w.heap.size, 6, none⟩ (.int .i64 R)).setCell ⟨w.heap.size, 7, none⟩ (.int .i64 N)).setCell ⟨w.heap.size, 8, none⟩ (.int .i64 pp)).setCell ⟨w.heap.size, 9, none⟩ (.int .i64 n)).setCell ⟨w.heap.size, 10, none⟩ (.string ⟨t.toArray⟩)).setCell ⟨w.heap.size, 11, none⟩ (.bool f)).setCell ⟨w.heap.size, 12, none⟩ (.int .i64 R2)).setCell ⟨w.heap.size, 13, none⟩ (.int .i64 N2)).setCell ⟨w.heap.size + 1, 0, none⟩ (.bool false)).heap[w.heap.size + 1]? = some (.cells #[.bool false] 4 (0, 0)) := heap_set (heap_set_ne (heap_set_ne (heap_set_ne (heap_set_ne (heap_set_ne (heap_set_ne (heap_set_ne (heap_set_ne (heap_set_ne (heap_set_ne (heap_set_ne (heap_set_ne (heap_set_ne (heap_set_ne q3 (j := 0) (show w.heap.size + 1 ≠ w.heap.size by omega) (.int .i64 kd)) (j := 1) (show w.heap.size + 1 ≠ w.heap.size by omega) (.int .i64 en)) (j := 2) (show w.heap.size + 1 ≠ w.heap.size by omega) (.int .i64 eto)) (j := 3) (show w.heap.size + 1 ≠ w.heap.size by omega) (.int .i64 ek)) (j := 4) (show w.heap.size + 1 ≠ w.heap.size by omega) (.bool ef)) (j := 5) (show w.heap.size + 1 ≠ w.heap.size by omega) (.int .i64 ck)) (j := 6) (show w.heap.size + 1 ≠ w.heap.size by omega) (.int .i64 R)) (j := 7) (show w.heap.size + 1 ≠ w.heap.size by omega) (.int .i64 N)) (j := 8) (show w.heap.size + 1 ≠ w.heap.size by omega) (.int .i64 pp)) (j := 9) (show w.heap.size + 1 ≠ w.heap.size by omega) (.int .i64 n)) (j := 10) (show w.heap.size + 1 ≠ w.heap.size by omega) (.string ⟨t.toArray⟩)) (j := 11) (show w.heap.size + 1 ≠ w.heap.size by omega) (.bool f)) (j := 12) (show w.heap.size + 1 ≠ w.heap.size by omega) (.int .i64 R2)) (j := 13) (show w.heap.size + 1 ≠ w.heap.size by omega) (.int .i64 N2)) 0 (.bool false)
      have K4 := Keeps.setNew (Keeps.fill14 (K2.trans k3) (b := w.heap.size) (Nat.le_refl _) (.int .i64 kd) (.int .i64 en) (.int .i64 eto) (.int .i64 ek) (.bool ef) (.int .i64 ck) (.int .i64 R) (.int .i64 N) (.int .i64 pp) (.int .i64 n) (.string ⟨t.toArray⟩) (.bool f) (.int .i64 R2) (.int .i64 N2)) (b := w.heap.size + 1) (j := 0) (by omega) (.bool false)
      clear xb3 xq3 zb3 zq3 b3 q3
      generalize (((((((((((((((w3.setCell ⟨w.heap.size, 0, none⟩ (.int .i64 kd)).setCell ⟨w.heap.size, 1, none⟩ (.int .i64 en)).setCell ⟨w.heap.size, 2, none⟩ (.int .i64 eto)).setCell ⟨w.heap.size, 3, none⟩ (.int .i64 ek)).setCell ⟨w.heap.size, 4, none⟩ (.bool ef)).setCell ⟨w.heap.size, 5, none⟩ (.int .i64 ck)).setCell ⟨w.heap.size, 6, none⟩ (.int .i64 R)).setCell ⟨w.heap.size, 7, none⟩ (.int .i64 N)).setCell ⟨w.heap.size, 8, none⟩ (.int .i64 pp)).setCell ⟨w.heap.size, 9, none⟩ (.int .i64 n)).setCell ⟨w.heap.size, 10, none⟩ (.string ⟨t.toArray⟩)).setCell ⟨w.heap.size, 11, none⟩ (.bool f)).setCell ⟨w.heap.size, 12, none⟩ (.int .i64 R2)).setCell ⟨w.heap.size, 13, none⟩ (.int .i64 N2)).setCell ⟨w.heap.size + 1, 0, none⟩ (.bool false)) = w4 at *
      have xb4 := Lib.cell_of_heap b4; have xq4 := Lib.cell_of_heap q4
      refine leaves_cons (f := 67) (args := #[.pointer (some ⟨w.heap.size, 0, none⟩), .pointer (some ⟨w.heap.size + 1, 0, none⟩)]) (by simp) (by simp [go_sem]) ?_
      refine (catch_idle ⟨w.heap.size, 0, none⟩ ⟨w.heap.size + 1, 0, none⟩ w4).mono ?_
      rintro e u' w5 ⟨rfl, rfl, rfl⟩
      simp [Leaves, settle, results, Tryz.results36, go_sem, xb4, xq4]
      have := HP.out
      rw [if_neg (by rintro ⟨e1, -⟩; simp_all)] at this
      exact ParsePost.bad ⟨kd, en, eto, ek, ef, ⟨ck, ⟨R, N⟩, pp, n, t, f, ⟨R2, N2⟩⟩⟩ rfl this K4

end Go.Proofs.YtkpenijilnagjaaGreatDoor

namespace Off
open Go

def lines : Bs → List Bs
  | [] => [[]]
  | b :: l => if b = 10 then [] :: lines l else match lines l with
    | [] => [[b]]
    | x :: r => (b :: x) :: r

theorem lines_ne : ∀ s, lines s ≠ []
  | [] => by simp [lines]
  | b :: l => by
    unfold lines
    split
    · simp
    · split <;> simp
theorem lines_miss : ∀ {s : Bs}, (10 : UInt8) ∉ s → lines s = [s]
  | [], _ => rfl
  | b :: l, h => by
    have h1 : b ≠ 10 := fun e => h (by simp [e])
    have h2 : (10 : UInt8) ∉ l := fun e => h (by simp [e])
    rw [lines, if_neg h1, lines_miss h2]
theorem lines_hit : ∀ {a : Bs} (r : Bs), (10 : UInt8) ∉ a → lines (a ++ 10 :: r) = a :: lines r
  | [], r, _ => by rw [List.nil_append, lines, if_pos rfl]
  | b :: l, r, h => by
    have h1 : b ≠ 10 := fun e => h (by simp [e])
    have h2 : (10 : UInt8) ∉ l := fun e => h (by simp [e])
    rw [List.cons_append, lines, if_neg h1, lines_hit r h2]
theorem lines_length_le : ∀ s, (lines s).length ≤ s.length + 1
  | [] => by simp [lines]
  | b :: l => by
    have ih := lines_length_le l
    unfold lines
    split
    · simp; omega
    · split
      · simp
      · rename_i x r hx
        rw [hx] at ih
        simp only [List.length_cons] at ih ⊢
        omega
/-- what stands ahead of the first end of a line, if there is one -/
theorem lines_cases (s : Bs) : (10 ∉ s ∧ lines s = [s]) ∨ ∃ a r, s = a ++ 10 :: r ∧ (10 : UInt8) ∉ a ∧ lines s = a :: lines r := by
  by_cases h : (10 : UInt8) ∈ s
  · right
    obtain ⟨a, r, rfl, ha⟩ := List.eq_append_cons_of_mem h
    exact ⟨a, r, rfl, ha, lines_hit r ha⟩
  · exact .inl ⟨h, lines_miss h⟩

/-- the events of lines, the first of which is line i (counted from 0); or the number of the line that is none -/
def parseL (i : Nat) : List Bs → Except Nat (List Ev)
  | [] => .ok []
  | [z] => if z = [] then .ok [] else .error (i + 1)
  | l :: m :: r => match parseLine l with
    | none => .error (i + 1)
    | some e => match parseL (i + 1) (m :: r) with
      | .ok l => .ok (e :: l)
      | .error k => .error k
def parseT (s : Bs) : Except Nat (List Ev) := parseL 0 (lines s)

theorem parseL_cons {i : Nat} {l : Bs} {ls : List Bs} (h : ls ≠ []) : parseL i (l :: ls) = match parseLine l with
    | none => .error (i + 1)
    | some e => match parseL (i + 1) ls with
      | .ok l => .ok (e :: l)
      | .error k => .error k := by
  cases ls with
  | nil => exact absurd rfl h
  | cons m r => rw [parseL.eq_def]

/-- a shift of the count -/
theorem parseL_shift : ∀ (ls : List Bs) (i : Nat), parseL i ls = match parseL 0 ls with | .ok l => .ok l | .error k => .error (i + k)
  | [], i => rfl
  | [z], i => by
    by_cases h : z = []
    · simp [parseL, h]
    · simp [parseL, h]
  | l :: m :: r, i => by
    rw [parseL_cons (i := i) (l := l) (ls := m :: r) (by simp), parseL_cons (i := 0) (l := l) (ls := m :: r) (by simp)]
    cases parseLine l with
    | none => simp
    | some e =>
      simp only
      rw [parseL_shift (m :: r) (i + 1), parseL_shift (m :: r) (0 + 1)]
      cases parseL 0 (m :: r) with
      | ok l => rfl
      | error k => simp only; congr 1; omega

theorem parseL_pos : ∀ {ls : List Bs} {i k : Nat}, parseL i ls = .error k → i < k
  | [], i, k, h => by cases h
  | [z], i, k, h => by
    rw [parseL] at h
    split at h
    · cases h
    · cases h; omega
  | l :: m :: r, i, k, h => by
    rw [parseL_cons (l := l) (ls := m :: r) (by simp)] at h
    cases hp : parseLine l with
    | none => rw [hp] at h; cases h; omega
    | some e =>
      rw [hp] at h
      simp only at h
      cases hr : parseL (i + 1) (m :: r) with
      | ok l => rw [hr] at h; cases h
      | error k' => rw [hr] at h; cases h; have := parseL_pos hr; omega

/-- a text that is parsed whole ends a line; what stands behind it is parsed as it is alone -/
theorem parseT_append : ∀ (n : Nat) {a b : Bs} {x : List Ev}, a.length ≤ n → parseT a = .ok x →
    parseT (a ++ b) = match parseT b with | .ok y => .ok (x ++ y) | .error k => .error (x.length + k)
  | n, a, b, x, hn, h => by
    unfold parseT at h ⊢
    rcases lines_cases a with ⟨hm, hl⟩ | ⟨c, r, rfl, hc, hl⟩
    · rw [hl, parseL] at h
      split at h
      · rename_i ha
        cases h
        subst ha
        simp only [List.nil_append, List.length_nil, Nat.zero_add]
        cases parseL 0 (lines b) <;> rfl
      · cases h
    · rw [hl, parseL_cons (lines_ne r)] at h
      have hl2 : lines ((c ++ 10 :: r) ++ b) = c :: lines (r ++ b) := by rw [List.append_assoc, List.cons_append]; exact lines_hit (r ++ b) hc
      rw [hl2, parseL_cons (lines_ne _)]
      cases hp : parseLine c with
      | none => rw [hp] at h; cases h
      | some e =>
        rw [hp] at h
        simp only at h ⊢
        rw [parseL_shift] at h ⊢
        cases hr : parseL 0 (lines r) with
        | error k => rw [hr] at h; cases h
        | ok y =>
          rw [hr] at h
          cases h
          cases n with
          | zero => simp at hn
          | succ n =>
            have ih := parseT_append n (a := r) (b := b) (x := y) (by simp at hn; omega) hr
            unfold parseT at ih
            rw [ih]
            cases parseL 0 (lines b) with
            | ok z => rfl
            | error k => simp only [List.length_cons]; congr 1; omega

/-- events as a text; or the first that no line tells -/
def showL (i : Nat) : List Ev → Except Nat Bs
  | [] => .ok []
  | e :: l => if evOk e = true then match showL (i + 1) l with
      | .ok t => .ok (evLine e ++ 10 :: t)
      | .error k => .error k
    else .error i

theorem parse_ok_lines : ∀ (n : Nat) {s : Bs} {l : List Ev}, s.length ≤ n → parseT s = .ok l → ∀ i, showL i l = .ok s
  | n, s, l, hn, h, i => by
    unfold parseT at h
    rcases lines_cases s with ⟨hm, hl⟩ | ⟨c, r, rfl, hc, hl⟩
    · rw [hl, parseL] at h
      split at h
      · rename_i hs; cases h; rw [hs]; rfl
      · cases h
    · rw [hl, parseL_cons (lines_ne r)] at h
      cases hp : parseLine c with
      | none => rw [hp] at h; cases h
      | some e =>
        rw [hp] at h
        simp only at h
        rw [parseL_shift] at h
        cases hr : parseL 0 (lines r) with
        | error k => rw [hr] at h; cases h
        | ok y =>
          rw [hr] at h
          cases h
          cases n with
          | zero => simp at hn
          | succ n =>
            have ih := parse_ok_lines n (s := r) (l := y) (by simp at hn; omega) hr (i + 1)
            obtain ⟨h1, h2⟩ := parse_some hp
            rw [showL, if_pos h1, ih, h2]

theorem joinW_not {c : UInt8} (h32 : c ≠ 32) : ∀ {ws : List Bs}, (∀ w ∈ ws, c ∉ w) → c ∉ joinW ws
  | [], _ => by simp [joinW]
  | [a], h => by rw [joinW]; exact h a (by simp)
  | a :: b :: r, h => by
    rw [joinW]
    have := joinW_not h32 (ws := b :: r) fun w hw => h w (by simp [hw])
    simp only [List.mem_append, List.mem_cons, not_or]
    exact ⟨h a (by simp), h32, this⟩

theorem quoteByte_ten (c : UInt8) : (10 : UInt8) ∉ quoteByte c := fin_byte (P := fun c => (10 : UInt8) ∉ quoteByte c) (by decide +kernel) c
theorem quoted_ten (t : Bs) : (10 : UInt8) ∉ quoted t := by
  unfold quoted
  simp only [List.mem_cons, List.mem_append, List.mem_flatMap, List.not_mem_nil, or_false, not_or, not_exists, not_and]
  exact ⟨by decide, fun c _ => quoteByte_ten c, by decide⟩
theorem itoa_ten (n : Int) : (10 : UInt8) ∉ Lib.itoa n := itoa_not (by decide) (by decide)
theorem show_ten (i : Bid) : (10 : UInt8) ∉ showId i := showId_not i (.inr (.inr rfl))
theorem where_ten (f : Bool) : (10 : UInt8) ∉ whereW f := by cases f <;> decide
theorem plainW_ten (c : Cmd) : (10 : UInt8) ∉ plainW c := by
  unfold plainW
  repeat' split
  all_goals decide
theorem cmdWords_ten (c : Cmd) : ∀ w ∈ cmdWords c, (10 : UInt8) ∉ w := by
  have h1 := show_ten c.block; have h2 := show_ten c.other; have h3 := itoa_ten c.pos; have h4 := itoa_ten c.n; have h5 := quoted_ten c.text; have h6 := where_ten c.flag; have h7 := plainW_ten c
  have l1 : (10 : UInt8) ∉ sNew := by decide
  have l2 : (10 : UInt8) ∉ sType := by decide
  have l3 : (10 : UInt8) ∉ sErase := by decide
  have l4 : (10 : UInt8) ∉ sSplit := by decide
  have l5 : (10 : UInt8) ∉ sMove := by decide
  have l6 : (10 : UInt8) ∉ sPlace := by decide
  unfold cmdWords
  intro w hw
  repeat' split at hw
  all_goals
    simp only [List.mem_cons, List.not_mem_nil, or_false] at hw
  all_goals
    rcases hw with rfl | hw
    · assumption
  all_goals
    rcases hw with rfl | hw
    · assumption
  all_goals
    rcases hw with rfl | rfl <;> assumption
theorem evLine_ten (e : Ev) : (10 : UInt8) ∉ evLine e := by
  have h1 := itoa_ten e.n; have h2 := itoa_ten e.to; have h3 := itoa_ten e.keep
  have hc := cmdWords_ten e.cmd
  refine joinW_not (by decide) ?_
  have l1 : (10 : UInt8) ∉ sDo := by decide
  have l2 : (10 : UInt8) ∉ sSync := by decide
  have l3 : (10 : UInt8) ∉ sCompact := by decide
  have l4 : (10 : UInt8) ∉ sStart := by decide
  have l5 : (10 : UInt8) ∉ sDrop := by decide
  have l6 : (10 : UInt8) ∉ sCrash := by decide
  have l7 : (10 : UInt8) ∉ sTell := by decide
  have l8 : (10 : UInt8) ∉ sCopy := by decide
  have l9 : (10 : UInt8) ∉ sDeliver := by decide
  unfold evWords
  intro w hw
  split at hw
  · rcases List.mem_append.1 hw with hw | hw
    · simp only [List.mem_cons, List.not_mem_nil, or_false] at hw
      rcases hw with rfl | rfl <;> assumption
    · exact hc w hw
  · repeat' split at hw
    all_goals simp only [List.mem_cons, List.not_mem_nil, or_false] at hw
    all_goals first
      | (rcases hw with rfl | rfl | rfl <;> assumption)
      | (rcases hw with rfl | rfl <;> assumption)

theorem show_parse : ∀ {l : List Ev} {t : Bs} {i : Nat}, (∀ e ∈ l, EvIn e) → showL i l = .ok t → parseT t = .ok l
  | [], t, i, _, h => by cases h; rfl
  | e :: l, t, i, hin, h => by
    rw [showL] at h
    split at h
    · rename_i hok
      cases hr : showL (i + 1) l with
      | error k => rw [hr] at h; cases h
      | ok u =>
        rw [hr] at h
        cases h
        have ih := show_parse (fun e he => hin e (by simp [he])) hr
        unfold parseT at ih ⊢
        rw [lines_hit u (evLine_ten e), parseL_cons (lines_ne u), parse_show (hin e (by simp)) hok]
        simp only
        rw [parseL_shift, ih]
    · cases h
theorem showL_lt : ∀ {l : List Ev} {i k : Nat}, showL i l = .error k → i ≤ k ∧ k < i + l.length
  | [], i, k, h => by cases h
  | e :: l, i, k, h => by
    rw [showL] at h
    split at h
    · cases hr : showL (i + 1) l with
      | ok u => rw [hr] at h; cases h
      | error k' =>
        rw [hr] at h; cases h
        have := showL_lt hr
        simp only [List.length_cons]; omega
    · cases h; simp
theorem showL_lines : ∀ {l : List Ev} {t : Bs} {i : Nat}, showL i l = .ok t → (lines t).length = l.length + 1
  | [], t, i, h => by cases h; rfl
  | e :: l, t, i, h => by
    rw [showL] at h
    split at h
    · cases hr : showL (i + 1) l with
      | error k => rw [hr] at h; cases h
      | ok u =>
        rw [hr] at h; cases h
        rw [lines_hit u (evLine_ten e), List.length_cons, showL_lines hr, List.length_cons]
    · cases h

/-! what strings.Split gives, by an end of a line -/
theorem index_ten (c : UInt8) : ∀ s : Bs, Lib.index s [c] = Lib.indexByte s c
  | [] => rfl
  | b :: l => by
    unfold Lib.index Lib.indexByte
    rw [index_ten c l]
    by_cases h : b = c
    · subst h; simp
    · have h' : ¬ c = b := fun e => h e.symm
      simp [h, h']
theorem indexByte_cases (c : UInt8) : ∀ s : Bs, (Lib.indexByte s c = -1 ∧ c ∉ s) ∨ ∃ k : Nat, Lib.indexByte s c = k ∧ s = s.take k ++ c :: s.drop (k + 1) ∧ c ∉ s.take k
  | [] => .inl ⟨rfl, by simp⟩
  | b :: l => by
    unfold Lib.indexByte
    by_cases h : b = c
    · subst h; exact .inr ⟨0, by simp, by simp, by simp⟩
    · rcases indexByte_cases c l with ⟨h1, h2⟩ | ⟨k, h1, h2, h3⟩
      · exact .inl ⟨by simp [h, h1], by simp [h2]; exact fun e => h e.symm⟩
      · refine .inr ⟨k + 1, ?_, ?_, ?_⟩
        · simp only [beq_iff_eq, h, if_false, h1]
          rw [if_neg (by omega)]
          rfl
        · simp only [List.take_succ_cons, List.drop_succ_cons, List.cons_append]; rw [← h2]
        · simp only [List.take_succ_cons, List.mem_cons, not_or]; exact ⟨fun e => h e.symm, h3⟩

theorem splitB_lines : ∀ (k : Nat) (s : ByteArray), Lib.countB s ⟨#[10]⟩ = k → (Lib.splitB ⟨#[10]⟩ 0 k s).map (·.data.toList) = lines s.data.toList := by
  have hi : ∀ s : ByteArray, Lib.indexB s ⟨#[10]⟩ = Lib.indexByte s.data.toList 10 := fun s => by
    rw [← index_ten]
  intro k
  induction k with
  | zero =>
    intro s hs
    rw [Lib.splitB_zero, List.map_cons, List.map_nil]
    rcases indexByte_cases 10 s.data.toList with ⟨_, h2⟩ | ⟨j, h1, _, _⟩
    · rw [lines_miss h2]
    · have := Lib.countB_hit s ⟨#[10]⟩ j (by decide) ((hi s).trans h1)
      omega
  | succ k ih =>
    intro s hs
    rcases indexByte_cases 10 s.data.toList with ⟨h1, h2⟩ | ⟨j, h1, h2, h3⟩
    · have := Lib.countB_miss s ⟨#[10]⟩ ((hi s).trans h1)
      omega
    · have hc := Lib.countB_hit s ⟨#[10]⟩ j (by decide) ((hi s).trans h1)
      rw [Lib.splitB_hit _ _ _ _ j ((hi s).trans h1), List.map_cons, ih _ (by omega)]
      have e1 : (s.extract 0 (j + 0)).data.toList = s.data.toList.take j := by rw [Lib.extract_data]; simp
      have e2 : (s.extract (j + (ByteArray.mk #[10]).size) s.size).data.toList = s.data.toList.drop (j + 1) := by
        rw [Lib.extract_data]
        show List.take (s.size - (j + 1)) (List.drop (j + 1) s.data.toList) = _
        rw [List.take_of_length_le]
        rw [List.length_drop]
        exact Nat.le_of_eq (by rw [Array.length_toList]; rfl)
      rw [e1, e2]
      conv => rhs; rw [h2]
      rw [lines_hit _ h3]

end Off

namespace Go.Proofs.YtkpenijilnagjaaGreatDoor
open Go.RowKit

def evCells (e : Off.Ev) : List Value :=
  [.int .i64 e.kind, .int .i64 e.n, .int .i64 e.to, .int .i64 e.keep, .bool e.flag, .int .i64 e.cmd.kind, .int .i64 e.cmd.block.R, .int .i64 e.cmd.block.N, .int .i64 e.cmd.pos, .int .i64 e.cmd.n,
    .string ⟨e.cmd.text.toArray⟩, .bool e.cmd.flag, .int .i64 e.cmd.other.R, .int .i64 e.cmd.other.N]

theorem infoEv : (Tryz.prog.info? 79).map (fun i => (i.zero, i.size, i.bytes)) = some (some (.agg #[.int .i64 0, .int .i64 0, .int .i64 0, .int .i64 0, .bool false, .int .i64 0, .int .i64 0, .int .i64 0, .int .i64 0, .int .i64 0, .string ⟨#[]⟩, .bool false, .int .i64 0, .int .i64 0]), 14, 120) := by kernel_rfl

theorem evCells_len (e : Off.Ev) : (evCells e).length = 14 := rfl
theorem flat_len (l : List Off.Ev) : (l.flatMap evCells).length = l.length * 14 := by
  induction l with
  | nil => rfl
  | cons e l ih => rw [List.flatMap_cons, List.length_append, ih, evCells_len, List.length_cons]; omega

/-- the first k lines are events -/
def FirstAre (L : List (List UInt8)) (k : Nat) (l : List Off.Ev) : Prop := (L.take k).map Off.parseLine = l.map some

theorem first_step {L : List (List UInt8)} {k : Nat} {l : List Off.Ev} {e : Off.Ev} (h : FirstAre L k l) (hk : k < L.length) (he : Off.parseLine L[k] = some e) : FirstAre L (k + 1) (l ++ [e]) := by
  unfold FirstAre at h ⊢
  rw [List.take_succ_eq_append_getElem hk, List.map_append, h, List.map_append]
  simp [he]
theorem parseL_first : ∀ (k : Nat) (L : List (List UInt8)) (l : List Off.Ev) (i : Nat), FirstAre L k l → k < L.length → Off.parseL i L = match Off.parseL (i + k) (L.drop k) with | .ok r => .ok (l ++ r) | .error e => .error e
  | 0, L, l, i, h, _ => by
    have : l = [] := by unfold FirstAre at h; simpa using h.symm
    subst this
    simp only [List.drop_zero, Nat.add_zero, List.nil_append]
    cases Off.parseL i L <;> rfl
  | k + 1, [], l, i, h, hk => by simp at hk
  | k + 1, a :: L, l, i, h, hk => by
    unfold FirstAre at h
    cases l with
    | nil => simp at h
    | cons e l =>
      simp only [List.take_succ_cons, List.map_cons, List.cons.injEq] at h
      simp only [List.length_cons] at hk
      have hne : L ≠ [] := by intro hh; subst hh; simp at hk
      rw [Off.parseL_cons hne, h.1]
      simp only [List.drop_succ_cons]
      rw [parseL_first k L l (i + 1) h.2 (by omega), show i + 1 + k = i + (k + 1) by omega]
      cases Off.parseL (i + (k + 1)) (L.drop k) <;> rfl
theorem parseL_stop {L : List (List UInt8)} {k : Nat} {l : List Off.Ev} (h : FirstAre L k l) (hk : k < L.length - 1) (hk' : k < L.length) (he : Off.parseLine L[k] = none) : Off.parseL 0 L = .error (k + 1) := by
  rw [parseL_first k L l 0 h hk', List.drop_eq_getElem_cons hk', Off.parseL_cons (by intro hh; have := congrArg List.length hh; simp at this; omega), he]
  simp
theorem parseL_last {L : List (List UInt8)} {l : List Off.Ev} (h0 : L.length - 1 < L.length) (h : FirstAre L (L.length - 1) l) : Off.parseL 0 L = if L[L.length - 1] = [] then .ok l else .error L.length := by
  rw [parseL_first _ L l 0 h h0, List.drop_eq_getElem_cons h0, show L.drop (L.length - 1 + 1) = [] from List.drop_eq_nil_of_le (by omega), Off.parseL]
  by_cases hh : L[L.length - 1] = []
  · rw [if_pos hh, if_pos hh]; simp
  · rw [if_neg hh, if_neg hh]; simp; omega
theorem lines_mem_le : ∀ {s x : List UInt8}, x ∈ Off.lines s → x.length ≤ s.length
  | [], x, h => by simp [Off.lines] at h; simp [h]
  | b :: l, x, h => by
    unfold Off.lines at h
    split at h
    · rcases List.mem_cons.1 h with rfl | h
      · simp
      · have := lines_mem_le h; simp; omega
    · split at h
      · simp at h; subst h; simp
      · rename_i y r hy
        rcases List.mem_cons.1 h with rfl | h
        · have := lines_mem_le (s := l) (x := y) (by rw [hy]; simp); simp; omega
        · have := lines_mem_le (s := l) (x := x) (by rw [hy]; simp [h]); simp; omega

/-- how Parse ends -/
def ParseTPost (w : World) (r : Except Nat (List Off.Ev)) (e : Ending) (w' : World) : Prop :=
  (match r with
    | .ok l => ∃ v, e = .returned (.tuple #[v, .int .i64 0, .int .i64 0]) ∧ w'.ownsRow (w.heap.size + 1) 79 14 v l.length (l.flatMap evCells)
    | .error k => e = .returned (.tuple #[.slice none 0 0, .int .i64 k, .int .i64 10])) ∧ Keeps No w w'

theorem ParseTPost.bad {w w' : World} {r : Except Nat (List Off.Ev)} {k : Nat} {v : Value} (h : r = .error k) (hv : v = .tuple #[.slice none 0 0, .int .i64 k, .int .i64 10]) (kk : Keeps No w w') : ParseTPost w r (.returned v) w' := by
  subst h hv; exact ⟨rfl, kk⟩
theorem ParseTPost.good {w w' : World} {r : Except Nat (List Off.Ev)} {l : List Off.Ev} {u v : Value} (h : r = .ok l) (hv : v = .tuple #[u, .int .i64 0, .int .i64 0]) (ho : w'.ownsRow (w.heap.size + 1) 79 14 u l.length (l.flatMap evCells)) (kk : Keeps No w w') : ParseTPost w r (.returned v) w' := by
  subst h hv; exact ⟨⟨u, rfl, ho⟩, kk⟩

/-- strings.Split by an end of a line -/
theorem lib_split (s : List UInt8) (w : World) (hE : Env w) (hs : s.length < 4294967281) :
    Calls Tryz.prog 35 #[.string ⟨s.toArray⟩, .string ⟨#[10]⟩] w fun e w' =>
      e = .returned (.slice (some ⟨w.heap.size, 0, none⟩) (Off.lines s).length (Off.lines s).length) ∧ w' = w.alloc (.cells ((Off.lines s).map strV).toArray 9) := by
  obtain ⟨m, hm⟩ := hE.maxLen
  refine (Tryz.strings_Split ⟨s.toArray⟩ ⟨#[10]⟩ m w (by rw [size_mk]; exact hs) hm (by decide)).mono ?_
  rintro e w' ⟨rfl, rfl⟩
  have hl := Off.splitB_lines _ ⟨s.toArray⟩ rfl
  have hd : (ByteArray.mk s.toArray).data.toList = s := by simp
  rw [hd] at hl
  have hn : (Off.lines s).length = Lib.countB ⟨s.toArray⟩ ⟨#[10]⟩ + 1 := by
    rw [← hl, List.length_map]; exact Lib.splitB_all _ (by decide) 0 _ _ rfl
  have hv : (Lib.splitB ⟨#[10]⟩ 0 (Lib.countB ⟨s.toArray⟩ ⟨#[10]⟩) ⟨s.toArray⟩).map Value.string = (Off.lines s).map strV := by
    rw [← hl, List.map_map]
    refine List.map_congr_left fun x _ => ?_
    show Value.string x = Value.string ⟨x.data.toList.toArray⟩
    simp
  rw [hn, hv]
  exact ⟨rfl, rfl⟩

set_option maxRecDepth 100000 in
set_option maxHeartbeats 2000000 in
theorem parseT_any (s : List UInt8) (w : World) (hE : Env w) (hs : s.length ≤ 1000000) (hn : (Off.lines s).length ≤ 10000) :
    Calls Tryz.prog 10 #[.string ⟨s.toArray⟩] w (ParseTPost w (Off.parseT s)) := by
  have hne := Off.lines_ne s
  have hS := lib_split s w hE (by omega)
  have hll : ∀ l ∈ Off.lines s, l.length ≤ 1000000 := fun l hl => Nat.le_trans (lines_mem_le hl) hs
  have hR : Hid (Off.parseT s = Off.parseL 0 (Off.lines s)) := rfl
  generalize hL : Off.lines s = L at hS hn hne hR hll
  have hL0 : 1 ≤ L.length := by cases L with | nil => exact absurd rfl hne | cons a b => simp
  obtain ⟨i0, hi, hz0, hz1, hz2⟩ := info_parts infoEv
  have r0 : (w.alloc (.cells (L.map strV).toArray 9)).heap[w.heap.size]? = some (.cells (L.map strV).toArray 9 (0, 0)) := heap_alloc_new w _
  have k0 : Keeps No w (w.alloc (.cells (L.map strV).toArray 9)) := (Keeps.refl _ _).alloc _
  have hz := hE.size
  have h0 : (w.alloc (.cells (L.map strV).toArray 9)).heap.size = w.heap.size + 1 := by simp
  go_enter Tryz.func10, Tryz.ntmps10
  go_wp2_with (go_at_call 35; refine hS.mono ?_; rintro e w1 ⟨rfl, rfl⟩)
  generalize w.alloc (.cells (L.map strV).toArray 9) = W0 at *
  go_loopw [7, 34] (fun v i wr => ∃ (k : Nat) (l : List Off.Ev), k ≤ L.length - 1 ∧ l.length = k ∧ i = .int .i64 k ∧ Hid (FirstAre L k l) ∧ wr.ownsRow (w.heap.size + 1) 79 14 v k (l.flatMap evCells) ∧
    wr.heap[w.heap.size]? = some (.cells (L.map strV).toArray 9 (0, 0)) ∧ Keeps No w wr ∧ w.heap.size + 1 ≤ wr.heap.size) (fun _ i _ => L.length - (intOf i).toNat)
  case atStart => exact ⟨0, [], Nat.zero_le _, rfl, rfl, rfl, World.ownsRow_nil _ _ _ _, r0, k0, by omega⟩
  case round =>
    obtain ⟨k, l, hk, hlk, rfl, hF, hown, hr, kr, hsz⟩ := hrel
    by_cases hlt : k < L.length - 1
    · have hcell : wr.cell? ⟨w.heap.size, k, none⟩ = some (strV (L[k]'(by omega))) := by rw [Lib.cell_of_heap hr]; simp [show k < L.length by omega]
      have hk' : k < L.length := by omega
      have hP := parse_any (L[k]'hk') wr (hE.no kr) (hll _ (List.getElem_mem hk'))
      have hne1 := hll
      clear hll hne1
      cases hp : Off.parseLine (L[k]'hk') with
      | none =>
        have hq := Lib.hid (hR.out.trans (parseL_stop hF.out hlt hk' hp))
        rw [hp] at hP
        clear hp hF hown
        generalize L[k]'hk' = ln at hcell hP
        go_wp2_with (go_at_call 36; refine hP.mono ?_; rintro e w2 ⟨⟨⟨kd, en, eto, ek, ef, ⟨ck, ⟨R, N⟩, pp, n, t, f, ⟨R2, N2⟩⟩⟩, rfl⟩, k2⟩)
        refine bodyPost_ret (v := .tuple #[.slice none 0 0, .int .i64 ((k : Int) + 1), .int .i64 10]) (by simp [results, Tryz.results10, go_sem]) rfl (ParseTPost.bad hq.out rfl ?_)
        exact (kr.trans k2).alloc _
      | some ev =>
        have hq := Lib.hid (first_step hF.out hk' hp)
        rw [hp] at hP
        clear hp hF
        generalize L[k]'hk' = ln at hcell hP
        obtain ⟨kd, en, eto, ek, ef, ⟨ck, ⟨R, N⟩, pp, n, t, f, ⟨R2, N2⟩⟩⟩ := ev
        go_wp2_with (first
          | (go_at_call 36; refine hP.mono ?_; rintro e w2 ⟨rfl, k2⟩
             have hown2 := k2.owns (fun _ e => e.elim) hown
             have hsz2 := k2.size)
          | (at_builtin; refine wpList_append_own _ rfl _ _ 23 rfl (w.heap.size + 1) 79 i0 _ 14 120 Tryz.underlying23 hi hz0 hz1 hz2 rfl (by decide) _ k (l.flatMap evCells) rfl ?c0 _ 1 1 (evCells ⟨kd, en, eto, ek, ef, ⟨ck, ⟨R, N⟩, pp, n, t, f, ⟨R2, N2⟩⟩⟩) rfl rfl ?c1 ?c2 ?c3 ?c4 ?c5 ?_))
        case c0 => exact (hown2.alloc _).alloc _
        case c1 =>
          intro j u hj
          have hadd : ∀ b : Nat, (⟨b, 0, none⟩ : Addr).add j = ⟨b, j, none⟩ := fun b => by unfold Addr.add; split <;> simp_all
          have hb := heap_alloc_new (w2.alloc (.cells (evCells ⟨kd, en, eto, ek, ef, ⟨ck, ⟨R, N⟩, pp, n, t, f, ⟨R2, N2⟩⟩⟩).toArray 79)) (.cells (evCells ⟨kd, en, eto, ek, ef, ⟨ck, ⟨R, N⟩, pp, n, t, f, ⟨R2, N2⟩⟩⟩).toArray 79)
          rw [hadd]
          refine (Lib.cell_of_heap (b := w2.heap.size + 1) (by rw [← hb]; congr 1; simp) j).trans ?_
          simpa using hj
        case c2 => intro u hu; exact List.all_eq_true.1 (show (evCells ⟨kd, en, eto, ek, ef, ⟨ck, ⟨R, N⟩, pp, n, t, f, ⟨R2, N2⟩⟩⟩).all (·.oneCell') = true from rfl) u hu
        case c3 => unfold maxLen; omega
        case c4 => omega
        case c5 => simp; omega
        intro v' w3 hown' hg _
        have K3 : Keeps No w w3 := Keeps.grown (((kr.trans k2).alloc _).alloc _) hg (fun b hb => by have := (hown2.lt b hb).1; omega)
        have hr3 : w3.heap[w.heap.size]? = some (.cells (L.map strV).toArray 9 (0, 0)) := by
          refine (hg.block w.heap.size (by simp; omega) (fun e => ?_)).trans (heap_alloc_keep (heap_alloc_keep (k2.heap hr id) _) _)
          have := (hown2.lt _ e.symm).1; omega
        have hs3 : w2.heap.size ≤ w3.heap.size := Nat.le_trans (by simp; omega) hg.size
        go_wp2
        go_roundw
        case rel => exact ⟨k + 1, l ++ [⟨kd, en, eto, ek, ef, ⟨ck, ⟨R, N⟩, pp, n, t, f, ⟨R2, N2⟩⟩⟩], by omega, by simp [hlk], by go_num, hq, by simpa using hown', hr3, K3, by omega⟩
        case measure => simp [intOf]; omega
    · obtain rfl : k = L.length - 1 := by omega
      have h1 : L.length - 1 < L.length := by omega
      have hcell : wr.cell? ⟨w.heap.size, L.length - 1, none⟩ = some (strV (L[L.length - 1]'h1)) := by rw [Lib.cell_of_heap hr]; simp
      have hq := parseL_last h1 hF.out
      clear hF hll
      by_cases hz : L[L.length - 1]'h1 = []
      · rw [if_pos hz] at hq
        rw [hz] at hcell
        have hQ := Lib.hid (hR.out.trans hq)
        clear hz hq
        go_wp2_with fail
        refine bodyPost_ret (v := .tuple #[u7, .int .i64 0, .int .i64 0]) (by simp [results, Tryz.results10, go_sem]) rfl (ParseTPost.good hQ.out rfl ?_ kr)
        rw [hlk]; exact hown
      · rw [if_neg hz] at hq
        have hQ := Lib.hid (hR.out.trans hq)
        have hz1 : (L[L.length - 1]'h1 != []) = true := by simpa using hz
        have hz2 : (L[L.length - 1]'h1 == []) = false := by simpa using hz
        clear hq
        generalize L[L.length - 1]'h1 = ln at hcell hz hz1 hz2
        go_wp2_with fail
        exact bodyPost_ret (v := .tuple #[.slice none 0 0, .int .i64 (L.length : Int), .int .i64 10]) (by simp [results, Tryz.results10, go_sem]) rfl (ParseTPost.bad hQ.out rfl kr)

end Go.Proofs.YtkpenijilnagjaaGreatDoor

namespace Go.Proofs.YtkpenijilnagjaaGreatDoor
open Go.RowKit

/-- the slice v holds the events l -/
def EvLies (v : Value) (l : List Off.Ev) (w : World) : Prop :=
  ∃ a c, v = .slice a l.length c ∧ (l ≠ [] → ∃ g o, a = some ⟨g, o, none⟩ ∧ g < w.heap.size ∧ ∀ j u, (l.flatMap evCells)[j]? = some u → w.cell? ⟨g, o + j, none⟩ = some u)

theorem EvLies.no {v : Value} {l : List Off.Ev} {w w' : World} (h : EvLies v l w) (k : Keeps No w w') : EvLies v l w' := by
  obtain ⟨a, c, hv, h⟩ := h
  refine ⟨a, c, hv, fun hl => ?_⟩
  obtain ⟨g, o, ha, hg, hc⟩ := h hl
  exact ⟨g, o, ha, Nat.lt_of_lt_of_le hg k.size, fun j u hu => (k.cell hg id).trans (hc j u hu)⟩

theorem flat_at : ∀ (l : List Off.Ev) (k i : Nat) (hk : k < l.length), i < 14 → (l.flatMap evCells)[k * 14 + i]? = (evCells l[k])[i]?
  | [], k, i, hk, _ => by simp at hk
  | e :: l, 0, i, _, hi => by
    rw [List.flatMap_cons, List.getElem?_append_left (by rw [evCells_len]; omega)]; simp
  | e :: l, k + 1, i, hk, hi => by
    rw [List.flatMap_cons, List.getElem?_append_right (by rw [evCells_len]; omega), evCells_len, show (k + 1) * 14 + i - 14 = k * 14 + i by omega, flat_at l k i (by simpa using hk) hi]
    simp

theorem evLine_lt (e : Off.Ev) (h : EvFits e) : (Off.evLine e).length ≤ 100001000 := by
  obtain ⟨h1, h2, h3, h4⟩ := h
  have a1 := itoa_len e.n h1
  have a2 := itoa_len e.to h2
  have a3 := itoa_len e.keep h3
  have a4 := cmdWords_len e.cmd h4
  refine Nat.le_trans (joinW_len _) ?_
  unfold Off.evWords
  split
  · simp only [List.map_append, List.sum_append, List.map_cons, List.map_nil, List.sum_cons, List.sum_nil, Off.sDo, List.length_cons, List.length_nil]; have a5 : (List.map (fun x : Off.Bs => x.length + 1) (Off.cmdWords e.cmd)).sum ≤ 100000000 := a4; refine Nat.le_trans (Nat.add_le_add_left a5 _) ?_; omega
  · repeat' split
    all_goals (simp [Off.sSync, Off.sCompact, Off.sStart, Off.sDrop, Off.sCrash, Off.sTell, Off.sDeliver, Off.sCopy]; try omega)

/-- what the first k events are shown as is t -/
def ShownTo (l : List Off.Ev) (k : Nat) (t : List UInt8) : Prop :=
  Off.showL 0 l = match Off.showL k (l.drop k) with | .ok u => .ok (t ++ u) | .error e => .error e
theorem shown_start (l : List Off.Ev) : ShownTo l 0 [] := by
  unfold ShownTo
  simp only [List.drop_zero, List.nil_append]
  cases Off.showL 0 l <;> rfl
theorem shown_step {l : List Off.Ev} {k : Nat} {t : List UInt8} (h : ShownTo l k t) (hk : k < l.length) (ho : Off.evOk l[k] = true) : ShownTo l (k + 1) (t ++ (Off.evLine l[k] ++ [10])) := by
  unfold ShownTo at h ⊢
  rw [h, List.drop_eq_getElem_cons hk, Off.showL, if_pos ho]
  cases Off.showL (k + 1) (l.drop (k + 1)) <;> simp
theorem shown_stop {l : List Off.Ev} {k : Nat} {t : List UInt8} (h : ShownTo l k t) (hk : k < l.length) (ho : Off.evOk l[k] = false) : Off.showL 0 l = .error k := by
  unfold ShownTo at h
  rw [h, List.drop_eq_getElem_cons hk, Off.showL, if_neg (by simp [ho])]
theorem shown_end {l : List Off.Ev} {t : List UInt8} (h : ShownTo l l.length t) : Off.showL 0 l = .ok t := by
  unfold ShownTo at h
  rw [h, List.drop_length, Off.showL]; simp

theorem Keeps.below_no {w w1 w2 : World} (h : Keeps No w w1) (h' : Below w.heap.size w1 w2) : Keeps No w w2 :=
  ⟨h'.os.trans h.os, h'.tape.trans h.tape, h'.output.trans h.output, Nat.le_trans h.size h'.size, fun k hk hn => (h'.block k hk).trans (h.block k hk hn)⟩
theorem builder_no {B b : Nat} {bs : List Value} {w w' : World} (h : Lib.IsBuilder 91 5 B b bs w) (k : Keeps No w w') : Lib.IsBuilder 91 5 B b bs w' := by
  rcases h with ⟨hB, v, hbk, hown, hne⟩ | ⟨hB, v, hbk, hown, hne⟩
  · exact .inl ⟨hB, v, k.heap hbk id, k.owns (fun _ e => e.elim) hown, hne⟩
  · exact .inr ⟨hB, v, k.heap hbk id, k.owns (fun _ e => e.elim) hown, hne⟩

/-- how Show ends -/
def ShowTPost (w : World) (r : Except Nat (List UInt8)) (e : Ending) (w' : World) : Prop :=
  (match r with
    | .ok t => e = .returned (.tuple #[.string ⟨t.toArray⟩, .int .i64 (-1)])
    | .error k => e = .returned (.tuple #[.string ⟨#[]⟩, .int .i64 k])) ∧ Keeps No w w'
theorem ShowTPost.bad {w w' : World} {r : Except Nat (List UInt8)} {k : Nat} {v : Value} (h : r = .error k) (hv : v = .tuple #[.string ⟨#[]⟩, .int .i64 k]) (kk : Keeps No w w') : ShowTPost w r (.returned v) w' := by
  subst h hv; exact ⟨rfl, kk⟩
theorem ShowTPost.good {w w' : World} {r : Except Nat (List UInt8)} {t : List UInt8} {v : Value} (h : r = .ok t) (hv : v = .tuple #[.string ⟨t.toArray⟩, .int .i64 (-1)]) (kk : Keeps No w w') : ShowTPost w r (.returned v) w' := by
  subst h hv; exact ⟨rfl, kk⟩

set_option maxRecDepth 100000 in
set_option maxHeartbeats 2000000 in
theorem showT_any (v : Value) (l : List Off.Ev) (w : World) (hE : Env w) (hv : EvLies v l w) (hin : ∀ e ∈ l, EvFits e) (hn : l.length ≤ 10000) :
    Calls Tryz.prog 14 #[v] w (ShowTPost w (Off.showL 0 l)) := by
  obtain ⟨a, c, rfl, ha⟩ := hv
  have hz := hE.size
  have k0 : Keeps No w (w.alloc (.cells #[.pointer none, .slice none 0 0] 91)) := (Keeps.refl _ _).alloc _
  have b0 : Lib.IsBuilder 91 5 w.heap.size w.heap.size (Lib.byteCells []) (w.alloc (.cells #[.pointer none, .slice none 0 0] 91)) :=
    .inl ⟨Nat.le_refl _, .slice none 0 0, heap_alloc_new w _, World.ownsRow_nil _ _ _ _, by simp [Value.ownBlock]⟩
  go_enter Tryz.func14, Tryz.ntmps14
  go_wp2
  go_loopw [11] (fun i wr => ∃ (k : Nat) (t : List UInt8), k ≤ l.length ∧ i = .int .i64 k ∧ Hid (ShownTo l k t) ∧ t.length ≤ k * 100001001 ∧
    Lib.IsBuilder 91 5 w.heap.size w.heap.size (Lib.byteCells t) wr ∧ Keeps No w wr) (fun i _ => l.length - (intOf i).toNat)
  case atStart => exact ⟨0, [], Nat.zero_le _, rfl, shown_start l, by simp, b0, k0⟩
  case round =>
    obtain ⟨k, t, hk, rfl, hT, ht, hb, kr⟩ := hrel
    by_cases hlt : k < l.length
    · obtain ⟨g, o, rfl, hg, hc⟩ := ha (fun e => by subst e; simp at hlt)
      have hf := hin l[k] (List.getElem_mem hlt)
      have hE1 := hE.no kr
      have hcell : ∀ i, i < 14 → wr.cell? ⟨g, o + k * 14 + i, none⟩ = (evCells l[k])[i]? := by
        intro i hi
        have h1 : i < (evCells l[k]).length := by rw [evCells_len]; exact hi
        rw [(kr.cell hg id), Nat.add_assoc, hc (k * 14 + i) ((evCells l[k])[i]'h1) ((flat_at l k i hlt hi).trans (List.getElem?_eq_getElem h1))]
        exact (List.getElem?_eq_getElem h1).symm
      have hS := fun q => show_any l[k] (wr.alloc q) (hE1.alloc q) hf
      have hlen := evLine_lt l[k] hf
      have hstep := fun h => Lib.hid (shown_step hT.out hlt h)
      have hstop := fun h => Lib.hid (shown_stop hT.out hlt h)
      have hbw : w.heap.size ≤ wr.heap.size := kr.size
      clear hT hc hin
      generalize l[k] = ev at hf hcell hS hlen hstep hstop
      obtain ⟨kd, en, eto, ek, ef, ⟨ck, ⟨R, N⟩, pp, n, tx, f, ⟨R2, N2⟩⟩⟩ := ev
      have x0 := hcell 0 (by decide); have x1 := hcell 1 (by decide); have x2 := hcell 2 (by decide); have x3 := hcell 3 (by decide); have x4 := hcell 4 (by decide); have x5 := hcell 5 (by decide); have x6 := hcell 6 (by decide)
      have x7 := hcell 7 (by decide); have x8 := hcell 8 (by decide); have x9 := hcell 9 (by decide); have x10 := hcell 10 (by decide); have x11 := hcell 11 (by decide); have x12 := hcell 12 (by decide); have x13 := hcell 13 (by decide)
      simp only [evCells, List.getElem?_cons_zero, List.getElem?_cons_succ, Nat.add_zero] at x0 x1 x2 x3 x4 x5 x6 x7 x8 x9 x10 x11 x12 x13
      clear hcell
      generalize hln : Off.evLine ⟨kd, en, eto, ek, ef, ⟨ck, ⟨R, N⟩, pp, n, tx, f, ⟨R2, N2⟩⟩⟩ = ln at *
      generalize hok : Off.evOk ⟨kd, en, eto, ek, ef, ⟨ck, ⟨R, N⟩, pp, n, tx, f, ⟨R2, N2⟩⟩⟩ = ok at *
      have hm1 : ¬ 9223372036854775807 < ln.length + 1 := by omega
      have hlb : (Lib.byteCells t).length = t.length := Lib.byteCells_length t
      have hsz : (ByteArray.mk ln.toArray ++ ByteArray.mk #[10]).size = ln.length + 1 := by rw [ByteArray.size_append]; simp [ByteArray.size]
      have hcat : Lib.byteCells t ++ Lib.strCells (ByteArray.mk ln.toArray ++ ByteArray.mk #[10]) = Lib.byteCells (t ++ (ln ++ [10])) := by
        rw [Lib.strCells_eq, bytes_app, Lib.byteCells_append]
        congr 2
        simp
      have HC := Lib.hid hcat
      clear hcat
      go_wp2_with (first
        | (go_at_call 40; refine (hS _).mono ?_; rintro e w2 ⟨rfl, k2⟩
           have K2 := (kr.alloc (.cells #[.int .i64 kd, .int .i64 en, .int .i64 eto, .int .i64 ek, .bool ef, .int .i64 ck, .int .i64 R, .int .i64 N, .int .i64 pp, .int .i64 n, .string ⟨tx.toArray⟩, .bool f, .int .i64 R2, .int .i64 N2] 79)).trans k2
           have hb2 := builder_no (builder_no hb ((Keeps.refl No wr).alloc _)) k2
           have hbw2 := K2.size)
        | (go_at_call 41; refine (lib_write w.heap.size w.heap.size (Lib.byteCells t) _ w2 hb2 (by rw [hlb, hsz]; omega) hbw2).mono ?_; rintro e w3 ⟨rfl, hb3, k3⟩))
      · go_ret2
        exact ShowTPost.bad (hstop (by first | assumption | (cases ok <;> simp_all))).out rfl K2
      · rw [HC.out] at hb3
        have hq := hstep (by first | assumption | (cases ok <;> simp_all))
        go_roundw
        case rel => exact ⟨k + 1, t ++ (ln ++ [10]), by omega, by go_num, hq, by simp only [List.length_append, List.length_cons, List.length_nil]; omega, .inr hb3, K2.below_no k3⟩
        case measure => simp [intOf]; omega
    · obtain rfl : k = l.length := by omega
      have hq := Lib.hid (shown_end hT.out)
      have hbw : w.heap.size ≤ wr.heap.size := kr.size
      clear hT
      go_wp2_with (go_at_call 42; refine (lib_string w.heap.size w.heap.size t wr hb hbw).mono ?_; rintro e w2 ⟨rfl, k2⟩)
      go_ret2
      exact ShowTPost.good hq.out rfl (kr.below_no k2)

end Go.Proofs.YtkpenijilnagjaaGreatDoor

namespace Go.Proofs.YtkpenijilnagjaaGreatDoor
open Go.RowKit

theorem lies_cells {v : Value} {l : List Off.Ev} {w : World} (h : EvLies v l w) {k : Nat} (hk : k < l.length) :
    ∃ g o c, v = .slice (some ⟨g, o, none⟩) l.length c ∧ ∀ i, i < 14 → w.cell? ⟨g, o + k * 14 + i, none⟩ = (evCells l[k])[i]? := by
  obtain ⟨a, c, rfl, h⟩ := h
  obtain ⟨g, o, rfl, hg, hc⟩ := h (fun e => by subst e; simp at hk)
  refine ⟨g, o, c, rfl, fun i hi => ?_⟩
  have h1 : i < (evCells l[k]).length := by rw [evCells_len]; exact hi
  rw [Nat.add_assoc, hc (k * 14 + i) ((evCells l[k])[i]'h1) ((flat_at l k i hk hi).trans (List.getElem?_eq_getElem h1))]
  exact (List.getElem?_eq_getElem h1).symm

theorem evCells_inj {a b : Off.Ev} (h : evSame a b = true) : a = b := by unfold evSame at h; simpa using h

set_option maxRecDepth 100000 in
set_option maxHeartbeats 2000000 in
theorem same_any (va vb : Value) (la lb : List Off.Ev) (w : World) (ha : EvLies va la w) (hb : EvLies vb lb w) (hna : la.length ≤ 1000000) (hnb : lb.length ≤ 1000000) :
    Calls Tryz.prog 12 #[va, vb] w fun e w' => e = .returned (.bool (decide (la = lb))) ∧ Keeps No w w' := by
  have ha' := ha
  have hb' := hb
  obtain ⟨xa, ca, rfl, _⟩ := ha
  obtain ⟨xb, cb, rfl, _⟩ := hb
  by_cases hn : la.length = lb.length
  · have hn1 : ((la.length : Int) != (lb.length : Int)) = false := by simp [hn]
    have hn2 : ((la.length : Int) == (lb.length : Int)) = true := by simp [hn]
    have gE := guardEv
    have qE := eqEvMax
    go_enter Tryz.func12, Tryz.ntmps12
    go_wp2
    go_loopw [5] (fun i wr => ∃ k : Nat, k ≤ la.length ∧ i = .int .i64 k ∧ Hid (la.take k = lb.take k) ∧ Keeps No w wr) (fun i _ => la.length - (intOf i).toNat)
    case atStart => exact ⟨0, Nat.zero_le _, rfl, rfl, Keeps.refl _ _⟩
    case round =>
      obtain ⟨k, hk, rfl, hT, kr⟩ := hrel
      by_cases hlt : k < la.length
      · have hlt2 : k < lb.length := by omega
        obtain ⟨g, o, c, h1, hc1⟩ := lies_cells (ha'.no kr) hlt
        obtain ⟨g2, o2, c2, h2, hc2⟩ := lies_cells (hb'.no kr) hlt2
        simp only [Value.slice.injEq, true_and] at h1 h2
        obtain ⟨rfl, rfl⟩ := h1
        obtain ⟨rfl, rfl⟩ := h2
        have hyes : evSame (la[k]'hlt) (lb[k]'hlt2) = true → Hid (la.take (k + 1) = lb.take (k + 1)) := fun h => by
          have := evCells_inj h
          refine Lib.hid ?_
          rw [List.take_succ_eq_append_getElem hlt, List.take_succ_eq_append_getElem hlt2, hT.out, this]
        have hno : evSame (la[k]'hlt) (lb[k]'hlt2) = false → Hid (decide (la = lb) = false) := fun h => Lib.hid (decide_eq_false fun e => by subst e; simp [evSame] at h)
        clear hT ha' hb'
        generalize la[k]'hlt = ea at hc1 hyes hno
        generalize lb[k]'hlt2 = eb at hc2 hyes hno
        obtain ⟨kd, en, eto, ek, ef, ⟨ck, ⟨R, N⟩, pp, n, tx, f, ⟨R2, N2⟩⟩⟩ := ea
        obtain ⟨kd', en', eto', ek', ef', ⟨ck', ⟨R', N'⟩, pp', n', tx', f', ⟨R2', N2'⟩⟩⟩ := eb
        have x0 := hc1 0 (by decide); have x1 := hc1 1 (by decide); have x2 := hc1 2 (by decide); have x3 := hc1 3 (by decide); have x4 := hc1 4 (by decide); have x5 := hc1 5 (by decide); have x6 := hc1 6 (by decide)
        have x7 := hc1 7 (by decide); have x8 := hc1 8 (by decide); have x9 := hc1 9 (by decide); have x10 := hc1 10 (by decide); have x11 := hc1 11 (by decide); have x12 := hc1 12 (by decide); have x13 := hc1 13 (by decide)
        have y0 := hc2 0 (by decide); have y1 := hc2 1 (by decide); have y2 := hc2 2 (by decide); have y3 := hc2 3 (by decide); have y4 := hc2 4 (by decide); have y5 := hc2 5 (by decide); have y6 := hc2 6 (by decide)
        have y7 := hc2 7 (by decide); have y8 := hc2 8 (by decide); have y9 := hc2 9 (by decide); have y10 := hc2 10 (by decide); have y11 := hc2 11 (by decide); have y12 := hc2 12 (by decide); have y13 := hc2 13 (by decide)
        simp only [evCells, List.getElem?_cons_zero, List.getElem?_cons_succ, Nat.add_zero] at x0 x1 x2 x3 x4 x5 x6 x7 x8 x9 x10 x11 x12 x13 y0 y1 y2 y3 y4 y5 y6 y7 y8 y9 y10 y11 y12 y13
        clear hc1 hc2
        go_wp2_with fail
        go_quiet (fail)
        clear gE qE x0 x1 x2 x3 x4 x5 x6 x7 x8 x9 x10 x11 x12 x13 y0 y1 y2 y3 y4 y5 y6 y7 y8 y9 y10 y11 y12 y13
        generalize hq : evSame ⟨kd, en, eto, ek, ef, ⟨ck, ⟨R, N⟩, pp, n, tx, f, ⟨R2, N2⟩⟩⟩ ⟨kd', en', eto', ek', ef', ⟨ck', ⟨R', N'⟩, pp', n', tx', f', ⟨R2', N2'⟩⟩⟩ = q at hyes hno ⊢
        clear hq
        cases q
        · have H := hno rfl
          clear hyes hno
          go_wp2_with fail
          go_ret
          exact ⟨ret_bool H.out.symm, kr.drewN _⟩
        · have H := hyes rfl
          clear hyes hno
          go_wp2_with fail
          exact ⟨⟨k + 1, by omega, by go_num, H, kr.drewN _⟩, by simp [intOf]; omega⟩
      · obtain rfl : k = la.length := by omega
        have he : decide (la = lb) = true := decide_eq_true (by have := hT.out; rw [List.take_length, hn, List.take_length] at this; exact this)
        have he := Lib.hid he
        clear hT
        go_wp2_with fail
        go_ret
        exact ⟨ret_bool he.out.symm, kr⟩
  · have hn1 : ((la.length : Int) != (lb.length : Int)) = true := by simp; omega
    have hn2 : ((la.length : Int) == (lb.length : Int)) = false := by simp; omega
    have hne : decide (la = lb) = false := decide_eq_false fun e => hn (by rw [e])
    rw [hne]
    go_enter Tryz.func12, Tryz.ntmps12
    go_wp2
    go_ret
    exact ⟨rfl, Keeps.refl _ _⟩

end Go.Proofs.YtkpenijilnagjaaGreatDoor

namespace Go.Proofs.YtkpenijilnagjaaGreatDoor
open Go.RowKit

def great (l : List Off.Ev) : Bool := decide (150 < l.length) || l.any fun e => decide (100 < e.cmd.text.length)

theorem great_far {l : List Off.Ev} (h : 150 < l.length) : great l = true := by unfold great; rw [decide_eq_true h]; rfl
theorem great_hit {l : List Off.Ev} {k : Nat} (hk : k < l.length) (h : 100 < l[k].cmd.text.length) : great l = true := by
  unfold great
  rw [show (l.any fun e => decide (100 < e.cmd.text.length)) = true from List.any_eq_true.2 ⟨l[k], List.getElem_mem hk, by simpa using h⟩, Bool.or_true]
theorem great_not {l : List Off.Ev} (h : l.length ≤ 150) (h' : ∀ j (hj : j < l.length), l[j].cmd.text.length ≤ 100) : great l = false := by
  unfold great
  rw [decide_eq_false (by omega), Bool.false_or]
  refine List.any_eq_false.2 fun e he => ?_
  obtain ⟨j, hj, rfl⟩ := List.getElem_of_mem he
  have := h' j hj
  simpa using this

set_option maxRecDepth 100000 in
set_option maxHeartbeats 2000000 in
theorem great_any (v : Value) (l : List Off.Ev) (w : World) (hv : EvLies v l w) :
    Calls Tryz.prog 13 #[v] w fun e w' => e = .returned (.bool (great l)) ∧ Keeps No w w' := by
  have hv' := hv
  obtain ⟨a, c, rfl, _⟩ := hv
  by_cases hf : 150 < l.length
  · have hg := Lib.hid (great_far hf)
    have h1 : (150 : Int) < (l.length : Int) := by omega
    go_enter Tryz.func13, Tryz.ntmps13
    go_wp2
    go_ret
    exact ⟨ret_bool hg.out.symm, Keeps.refl _ _⟩
  · have h1 : ¬ (150 : Int) < (l.length : Int) := by omega
    go_enter Tryz.func13, Tryz.ntmps13
    go_wp2
    go_loopw [3] (fun i wr => ∃ k : Nat, k ≤ l.length ∧ i = .int .i64 k ∧ Hid (∀ j (hj : j < l.length), j < k → l[j].cmd.text.length ≤ 100) ∧ Keeps No w wr) (fun i _ => l.length - (intOf i).toNat)
    case atStart => exact ⟨0, Nat.zero_le _, rfl, fun j hj h => by omega, Keeps.refl _ _⟩
    case round =>
      obtain ⟨k, hk, rfl, hT, kr⟩ := hrel
      by_cases hlt : k < l.length
      · obtain ⟨g, o, cc, h1, hc1⟩ := lies_cells (hv'.no kr) hlt
        simp only [Value.slice.injEq, true_and] at h1
        obtain ⟨rfl, rfl⟩ := h1
        have x10 : wr.cell? ⟨g, o + k * 14 + 10, none⟩ = some (strV (l[k]'hlt).cmd.text) := hc1 10 (by decide)
        have hyes : 100 < (l[k]'hlt).cmd.text.length → Hid (great l = true) := fun h => Lib.hid (great_hit hlt h)
        have hno : ¬ 100 < (l[k]'hlt).cmd.text.length → Hid (∀ j (hj : j < l.length), j < k + 1 → l[j].cmd.text.length ≤ 100) := fun h => Lib.hid fun j hj hjk => by
          rcases Nat.lt_or_ge j k with h2 | h2
          · exact hT.out j hj h2
          · obtain rfl : j = k := by omega
            omega
        clear hT hv' hc1
        generalize (l[k]'hlt).cmd.text = tx at x10 hyes hno
        by_cases hb : 100 < tx.length
        · have H := hyes hb
          have hb' : (100 : Int) < (tx.length : Int) := by omega
          clear hyes hno
          go_wp2_with fail
          go_ret
          exact ⟨ret_bool H.out.symm, kr⟩
        · have H := hno hb
          have hb' : ¬ (100 : Int) < (tx.length : Int) := by omega
          clear hyes hno
          go_wp2_with fail
          exact ⟨⟨k + 1, by omega, by go_num, H, kr⟩, by simp [intOf]; omega⟩
      · obtain rfl : k = l.length := by omega
        have H := Lib.hid (great_not (by omega) fun j hj => hT.out j hj hj)
        clear hT
        go_wp2_with fail
        go_ret
        exact ⟨ret_bool H.out.symm, kr⟩

set_option maxRecDepth 100000 in
set_option maxHeartbeats 2000000 in
theorem fresh_any (n : Int) (s : List UInt8) (w : World) :
    Calls Tryz.prog 34 #[.int .i64 n, .string ⟨s.toArray⟩] w fun e w' => e = .returned (evV ⟨1, n, 0, 0, false, ⟨1, ⟨0, 0⟩, 0, 0, s, true, ⟨0, 0⟩⟩⟩) ∧ Keeps No w w' := by
  go_enter Tryz.func34, Tryz.ntmps34
  go_wp2
  have hb := heap_alloc_new w (.cells #[.int .i64 1, .int .i64 n, .int .i64 0, .int .i64 0, .bool false, .int .i64 1, .int .i64 0, .int .i64 0, .int .i64 0, .int .i64 0, .string ⟨s.toArray⟩, .bool true, .int .i64 0, .int .i64 0] 79)
  have kk : Keeps No w (w.alloc (.cells #[.int .i64 1, .int .i64 n, .int .i64 0, .int .i64 0, .bool false, .int .i64 1, .int .i64 0, .int .i64 0, .int .i64 0, .int .i64 0, .string ⟨s.toArray⟩, .bool true, .int .i64 0, .int .i64 0] 79)) := (Keeps.refl _ _).alloc _
  generalize w.alloc (.cells #[.int .i64 1, .int .i64 n, .int .i64 0, .int .i64 0, .bool false, .int .i64 1, .int .i64 0, .int .i64 0, .int .i64 0, .int .i64 0, .string ⟨s.toArray⟩, .bool true, .int .i64 0, .int .i64 0] 79) = W at *
  have c := Lib.cell_of_heap hb
  exact bodyPost_ret (v := evV ⟨1, n, 0, 0, false, ⟨1, ⟨0, 0⟩, 0, 0, s, true, ⟨0, 0⟩⟩⟩) (by simp [results, Tryz.results34, go_sem, c]) rfl ⟨rfl, kk⟩

end Go.Proofs.YtkpenijilnagjaaGreatDoor

namespace Go.Proofs.YtkpenijilnagjaaGreatDoor
open Go.RowKit

theorem rows_lie {w : World} {base : Nat} {v : Value} {l : List Off.Ev} (h : w.ownsRow base 79 14 v l.length (l.flatMap evCells)) : EvLies v l w := by
  have hown := h
  rcases h.2 with ⟨hv, hz⟩ | ⟨g, cap, cur, hv, _, hg, _⟩
  · have hl : l = [] := List.eq_nil_of_length_eq_zero hz
    subst hl
    exact ⟨none, 0, hv, fun e => absurd rfl e⟩
  · refine ⟨some ⟨g, 0, none⟩, cap, hv, fun _ => ⟨g, 0, rfl, heap_lt hg, fun j u hu => ?_⟩⟩
    have hadd : (⟨g, 0, none⟩ : Addr).add j = ⟨g, j, none⟩ := by unfold Addr.add; split <;> simp_all
    have := hown.cells (g := g) (by rw [hv]; rfl) j u hu
    rwa [hadd, ← Nat.zero_add j] at this

def sA : List UInt8 := [100, 111, 32, 48, 32, 110, 101, 119, 32, 105, 110, 32, 114, 111, 111, 116, 32, 34, 97, 34, 10, 116, 101, 108, 108, 32, 49, 32, 48, 10]
def sB : List UInt8 := [116, 101, 108, 108, 32, 49, 32, 48, 10, 116, 101, 108, 108, 32, 49]
def eA : Off.Ev := ⟨1, 0, 0, 0, false, ⟨1, ⟨0, 0⟩, 0, 0, [97], true, ⟨0, 0⟩⟩⟩
def eB : Off.Ev := ⟨3, 1, 0, 0, false, ⟨0, ⟨0, 0⟩, 0, 0, [], false, ⟨0, 0⟩⟩⟩
theorem lineA : Off.evLine eA = [100, 111, 32, 48, 32, 110, 101, 119, 32, 105, 110, 32, 114, 111, 111, 116, 32, 34, 97, 34] := by decide +kernel
theorem lineB : Off.evLine eB = [116, 101, 108, 108, 32, 49, 32, 48] := by decide +kernel
theorem okA : Off.evOk eA = true := by decide +kernel
theorem okB : Off.evOk eB = true := by decide +kernel
theorem showA : Off.showL 0 [eA, eB] = .ok sA := by
  rw [Off.showL, if_pos okA, Off.showL, if_pos okB, Off.showL, lineA, lineB]
  rfl
theorem parseA : Off.parseT sA = .ok [eA, eB] := by
  refine Off.show_parse (i := 0) ?_ showA
  intro e he
  simp only [List.mem_cons, List.not_mem_nil, or_false] at he
  rcases he with rfl | rfl
  · exact ⟨i64_zero, i64_zero, i64_zero, ⟨i64_zero, i64_zero⟩⟩
  · exact ⟨⟨by decide, by decide⟩, i64_zero, i64_zero, ⟨i64_zero, i64_zero⟩⟩
theorem parseB : Off.parseT sB = .error 2 := by
  have hp : Off.parseLine [116, 101, 108, 108, 32, 49, 32, 48] = some eB := by
    have := Off.parse_show (e := eB) ⟨⟨by decide, by decide⟩, i64_zero, i64_zero, ⟨i64_zero, i64_zero⟩⟩ okB
    rwa [lineB] at this
  show Off.parseL 0 [[116, 101, 108, 108, 32, 49, 32, 48], [116, 101, 108, 108, 32, 49]] = _
  rw [Off.parseL_cons (by simp), hp]
  rfl

set_option maxRecDepth 100000 in
set_option maxHeartbeats 2000000 in
theorem alive_any (w : World) (hE : Env w) :
    Calls Tryz.prog 9 #[] w fun e w' => e = .returned (.bool true) ∧ Keeps No w w' := by
  have hP := fun w1 (h : Env w1) => parseT_any sA w1 h (by decide) (by decide)
  have hQ := fun w1 (h : Env w1) => parseT_any sB w1 h (by decide) (by decide)
  rw [parseA] at hP
  rw [parseB] at hQ
  go_enter Tryz.func9, Tryz.ntmps9
  go_wp2_with fail
  refine (hP _ hE).mono ?_
  rintro e w1 ⟨⟨v, rfl, ho⟩, k1⟩
  have hE1 := hE.no k1
  have hl := rows_lie ho
  have hl1 := hl
  obtain ⟨g, o, c, rfl, hc⟩ := lies_cells hl (k := 0) (by decide)
  have hS := showT_any _ [eA, eB] w1 hE1 hl1 (by
    intro e he
    simp only [List.mem_cons, List.not_mem_nil, or_false] at he
    rcases he with rfl | rfl
    · exact ⟨i64_zero, i64_zero, i64_zero, ⟨i64_zero, i64_zero, i64_zero, i64_zero, i64_zero, i64_zero, by decide⟩⟩
    · exact ⟨⟨by decide, by decide⟩, i64_zero, i64_zero, ⟨i64_zero, i64_zero, i64_zero, i64_zero, i64_zero, i64_zero, by decide⟩⟩) (by decide)
  rw [showA] at hS
  go_wp2_with fail
  refine hS.mono ?_
  rintro e w2 ⟨rfl, k2⟩
  have hE2 := hE1.no k2
  go_wp2_with fail
  refine (hQ _ hE2).mono ?_
  rintro e w3 ⟨rfl, k3⟩
  have hl3 := (hl1.no k2).no k3
  have K3 := (k1.trans k2).trans k3
  go_wp2_with fail
  obtain ⟨g', o', c', h1, hc3⟩ := lies_cells hl3 (k := 0) (by decide)
  simp only [Value.slice.injEq, Option.some.injEq, Addr.mk.injEq, and_true, true_and] at h1
  obtain ⟨⟨h1a, h1b⟩, h1c⟩ := h1
  subst h1a h1b h1c
  have x0 : ∀ d os, (Sort.grow (redrawn w3 d) os).cell? ⟨g, o, none⟩ = some (.int .i64 1) := cell_regrown (hc3 0 (by decide))
  have x1 : ∀ d os, (Sort.grow (redrawn w3 d) os).cell? ⟨g, o + 1, none⟩ = some (.int .i64 0) := cell_regrown (hc3 1 (by decide))
  have x2 : ∀ d os, (Sort.grow (redrawn w3 d) os).cell? ⟨g, o + 2, none⟩ = some (.int .i64 0) := cell_regrown (hc3 2 (by decide))
  have x3 : ∀ d os, (Sort.grow (redrawn w3 d) os).cell? ⟨g, o + 3, none⟩ = some (.int .i64 0) := cell_regrown (hc3 3 (by decide))
  have x4 : ∀ d os, (Sort.grow (redrawn w3 d) os).cell? ⟨g, o + 4, none⟩ = some (.bool false) := cell_regrown (hc3 4 (by decide))
  have x5 : ∀ d os, (Sort.grow (redrawn w3 d) os).cell? ⟨g, o + 5, none⟩ = some (.int .i64 1) := cell_regrown (hc3 5 (by decide))
  have x6 : ∀ d os, (Sort.grow (redrawn w3 d) os).cell? ⟨g, o + 6, none⟩ = some (.int .i64 0) := cell_regrown (hc3 6 (by decide))
  have x7 : ∀ d os, (Sort.grow (redrawn w3 d) os).cell? ⟨g, o + 7, none⟩ = some (.int .i64 0) := cell_regrown (hc3 7 (by decide))
  have x8 : ∀ d os, (Sort.grow (redrawn w3 d) os).cell? ⟨g, o + 8, none⟩ = some (.int .i64 0) := cell_regrown (hc3 8 (by decide))
  have x9 : ∀ d os, (Sort.grow (redrawn w3 d) os).cell? ⟨g, o + 9, none⟩ = some (.int .i64 0) := cell_regrown (hc3 9 (by decide))
  have x10 : ∀ d os, (Sort.grow (redrawn w3 d) os).cell? ⟨g, o + 10, none⟩ = some (.string ⟨#[97]⟩) := cell_regrown (hc3 10 (by decide))
  have x11 : ∀ d os, (Sort.grow (redrawn w3 d) os).cell? ⟨g, o + 11, none⟩ = some (.bool true) := cell_regrown (hc3 11 (by decide))
  have x12 : ∀ d os, (Sort.grow (redrawn w3 d) os).cell? ⟨g, o + 12, none⟩ = some (.int .i64 0) := cell_regrown (hc3 12 (by decide))
  have x13 : ∀ d os, (Sort.grow (redrawn w3 d) os).cell? ⟨g, o + 13, none⟩ = some (.int .i64 0) := cell_regrown (hc3 13 (by decide))
  have cF : ∀ d os, Calls Tryz.prog 34 #[.int .i64 0, .string ⟨#[97]⟩] (Sort.grow (redrawn w3 d) os) fun e w'' => e = .returned (evV eA) ∧ ∃ p : Regrown, w'' = Sort.grow (redrawn w3 p.d) p.os :=
    fun d os => calls_regrown (fresh_any 0 [97] _)
  have qE := eqEvMax; have gE := guardEv
  clear hc hc3 hl3 hl hl1 ho hS hP hQ
  unfold sA
  refine wp_region_quiet_below (by kernel_rfl) (by kernel_rfl) ?_
  repeat (quiet_step (exact cF _ _))
  refine wpQuiet_nil ?_
  intro _ hw'
  obtain ⟨⟨dq, osq⟩, hw''⟩ := hw'
  subst hw''
  clear cF gE qE x0 x1 x2 x3 x4 x5 x6 x7 x8 x9 x10 x11 x12 x13
  go_wp2
  go_ret
  exact ⟨ret_bool (decide_eq_true rfl), K3.no (keeps_regrown w3 dq osq)⟩

end Go.Proofs.YtkpenijilnagjaaGreatDoor

namespace Go.Proofs.YtkpenijilnagjaaGreatDoor
open Go.RowKit

theorem lines_few {s : List UInt8} (h : s.length ≤ 9999) : (Off.lines s).length ≤ 10000 := by
  have := Off.lines_length_le s; omega
theorem parseL_few : ∀ {ls : List (List UInt8)} {i : Nat} {l : List Off.Ev}, Off.parseL i ls = .ok l → l.length ≤ ls.length
  | [], i, l, h => by cases h; simp
  | [z], i, l, h => by
    rw [Off.parseL] at h
    split at h
    · cases h; simp
    · cases h
  | a :: b :: r, i, l, h => by
    rw [Off.parseL_cons (by simp)] at h
    cases hp : Off.parseLine a with
    | none => rw [hp] at h; cases h
    | some e =>
      rw [hp] at h
      simp only at h
      cases hr : Off.parseL (i + 1) (b :: r) with
      | error k => rw [hr] at h; cases h
      | ok l' =>
        rw [hr] at h; cases h
        have := parseL_few hr
        simp only [List.length_cons] at this ⊢; omega
theorem parseT_few {s : List UInt8} {l : List Off.Ev} (h : Off.parseT s = .ok l) : l.length ≤ s.length + 1 :=
  Nat.le_trans (parseL_few h) (Off.lines_length_le s)

theorem parseL_err_le : ∀ {ls : List (List UInt8)} {i k : Nat}, Off.parseL i ls = .error k → k ≤ i + ls.length
  | [], i, k, h => by cases h
  | [z], i, k, h => by
    rw [Off.parseL] at h
    split at h
    · cases h
    · cases h; simp
  | a :: b :: r, i, k, h => by
    rw [Off.parseL_cons (by simp)] at h
    cases hp : Off.parseLine a with
    | none => rw [hp] at h; cases h; simp
    | some e =>
      rw [hp] at h
      simp only at h
      cases hr : Off.parseL (i + 1) (b :: r) with
      | ok l' => rw [hr] at h; cases h
      | error k' =>
        rw [hr] at h; cases h
        have := parseL_err_le hr
        simp only [List.length_cons] at this ⊢; omega
theorem parseT_err_le {s : List UInt8} {k : Nat} (h : Off.parseT s = .error k) : k ≤ s.length + 1 := by
  have h1 := parseL_err_le h
  have h2 := Off.lines_length_le s
  omega
theorem ParseTPost.shape {w w' : World} {r : Except Nat (List Off.Ev)} {e : Ending} (h : ParseTPost w r e w') :
    (∃ (a : Option Addr) (n c : Nat) (k g : Int), e = .returned (.tuple #[.slice a n c, .int .i64 k, .int .i64 g])) ∧ Keeps No w w' := by
  obtain ⟨h, kk⟩ := h
  refine ⟨?_, kk⟩
  cases r with
  | error k => exact ⟨none, 0, 0, k, 10, h⟩
  | ok l =>
    obtain ⟨v, rfl, ho⟩ := h
    rcases ho.2 with ⟨rfl, _⟩ | ⟨g, cap, cur, rfl, _⟩
    · exact ⟨none, 0, 0, 0, 0, rfl⟩
    · exact ⟨some ⟨g, 0, none⟩, l.length, cap, 0, 0, rfl⟩

/-- the numbers of an event are ints -/
def EvNums (e : Off.Ev) : Prop := Off.I64 e.n ∧ Off.I64 e.to ∧ Off.I64 e.keep ∧ Off.I64 e.cmd.block.R ∧ Off.I64 e.cmd.block.N ∧ Off.I64 e.cmd.other.R ∧ Off.I64 e.cmd.other.N ∧ Off.I64 e.cmd.pos ∧ Off.I64 e.cmd.n
theorem EvNums.fits {e : Off.Ev} (h : EvNums e) (ht : e.cmd.text.length ≤ 100) : EvFits e := by
  obtain ⟨h1, h2, h3, h4, h5, h6, h7, h8, h9⟩ := h
  exact ⟨h1, h2, h3, h4, h5, h6, h7, h8, h9, by omega⟩
theorem EvFits.isIn {e : Off.Ev} (h : EvFits e) : Off.EvIn e := ⟨h.1, h.2.1, h.2.2.1, ⟨h.2.2.2.2.2.2.2.1, h.2.2.2.2.2.2.2.2.1⟩⟩

theorem evLine_small {e : Off.Ev} (h : EvFits e) (ht : e.cmd.text.length ≤ 100) : (Off.evLine e).length ≤ 5000 := by
  obtain ⟨h1, h2, h3, g1, g2, g3, g4, g5, g6, g7⟩ := h
  have a1 := itoa_len e.n h1
  have a2 := itoa_len e.to h2
  have a3 := itoa_len e.keep h3
  have b1 := showId_len e.cmd.block g1 g2
  have b2 := showId_len e.cmd.other g3 g4
  have b3 := itoa_len e.cmd.pos g5
  have b4 := itoa_len e.cmd.n g6
  have b5 := quoted_len e.cmd.text
  have b6 := plainW_len e.cmd
  have b7 := whereW_len e.cmd.flag
  have hc : ((Off.cmdWords e.cmd).map fun x : Off.Bs => x.length + 1).sum ≤ 4000 := by
    unfold Off.cmdWords
    repeat' split
    all_goals (simp [Off.sNew, Off.sType, Off.sErase, Off.sSplit, Off.sMove, Off.sPlace]; omega)
  refine Nat.le_trans (joinW_len _) ?_
  unfold Off.evWords
  split
  · simp only [List.map_append, List.sum_append, List.map_cons, List.map_nil, List.sum_cons, List.sum_nil, Off.sDo, List.length_cons, List.length_nil]
    refine Nat.le_trans (Nat.add_le_add_left hc _) ?_
    omega
  · repeat' split
    all_goals (simp [Off.sSync, Off.sCompact, Off.sStart, Off.sDrop, Off.sCrash, Off.sTell, Off.sDeliver, Off.sCopy]; try omega)

theorem showL_len : ∀ {l : List Off.Ev} {i : Nat} {t : List UInt8}, (∀ e ∈ l, (Off.evLine e).length ≤ 5000) → Off.showL i l = .ok t → t.length ≤ l.length * 5001
  | [], i, t, _, h => by cases h; simp
  | e :: l, i, t, hl, h => by
    rw [Off.showL] at h
    split at h
    · cases hr : Off.showL (i + 1) l with
      | error k => rw [hr] at h; cases h
      | ok u =>
        rw [hr] at h; cases h
        have h1 := hl e (by simp)
        have h2 := showL_len (fun e he => hl e (by simp [he])) hr
        simp only [List.length_append, List.length_cons]; omega
    · cases h

theorem parseL_fits : ∀ {ls : List (List UInt8)} {i : Nat} {l : List Off.Ev}, (∀ x ∈ ls, x.length ≤ 1000000) → Off.parseL i ls = .ok l → ∀ e ∈ l, EvFits e
  | [], i, l, _, h => by cases h; simp
  | [z], i, l, _, h => by
    rw [Off.parseL] at h
    split at h
    · cases h; simp
    · cases h
  | a :: b :: r, i, l, hl, h => by
    rw [Off.parseL_cons (by simp)] at h
    cases hp : Off.parseLine a with
    | none => rw [hp] at h; cases h
    | some e =>
      rw [hp] at h
      simp only at h
      cases hr : Off.parseL (i + 1) (b :: r) with
      | error k => rw [hr] at h; cases h
      | ok l' =>
        rw [hr] at h; cases h
        intro x hx
        rcases List.mem_cons.1 hx with rfl | hx
        · unfold Off.parseLine at hp
          split at hp
          · cases hp
          · rename_i e' r' he
            split at hp
            · cases hp; exact event_fits (hl a (by simp)) he
            · cases hp
        · exact parseL_fits (fun x hx => hl x (by simp only [List.mem_cons] at hx ⊢; exact .inr hx)) hr x hx
theorem parseT_fits {s : List UInt8} {l : List Off.Ev} (hs : s.length ≤ 1000000) (h : Off.parseT s = .ok l) : ∀ e ∈ l, EvFits e :=
  parseL_fits (fun _ hx => Nat.le_trans (lines_mem_le hx) hs) h

theorem great_few {l : List Off.Ev} (h : great l = false) : l.length ≤ 150 ∧ ∀ e ∈ l, e.cmd.text.length ≤ 100 := by
  unfold great at h
  rw [Bool.or_eq_false_iff] at h
  refine ⟨by have := of_decide_eq_false h.1; omega, fun e he => ?_⟩
  have := List.any_eq_false.1 h.2 e he
  simpa using this

end Go.Proofs.YtkpenijilnagjaaGreatDoor
