/- What the scanner has read fits: its numbers are ints, its text is not longer than the line. -/
import Derived.Test.YtkpenijilnagjaaDoorShowBase
namespace Go.Proofs.YtkpenijilnagjaaDoor
open Go.RowKit

theorem textLoop_len : ∀ (m : Nat) (acc s t r : List UInt8), s.length ≤ m → Off.textLoop acc s = some (t, r) → t.length ≤ acc.length + s.length
  | _, acc, [], t, r, _, h => by rw [Off.textLoop] at h; cases h
  | 0, acc, c :: s, t, r, hm, h => by simp at hm
  | m + 1, acc, c :: s, t, r, hm, h => by
    have ih := textLoop_len m
    rw [Off.textLoop.eq_def] at h
    simp only at h
    simp only [List.length_cons] at hm ⊢
    split at h
    · cases h; omega
    · split at h
      · split at h
        · rename_i a b r' 
          split at h
          · cases h
          · split at h
            · cases h
            · have := ih _ _ _ _ (by simp only [List.length_cons] at hm; omega) h
              simp only [List.length_append, List.length_cons, List.length_nil] at this ⊢
              omega
        · cases h
      · have := ih _ _ _ _ (by omega) h
        simp only [List.length_append, List.length_cons, List.length_nil] at this
        omega

theorem text_len {s t r : List UInt8} (h : Off.text s = some (t, r)) : t.length ≤ s.length := by
  unfold Off.text at h
  split at h
  · have := textLoop_len _ _ _ _ _ (Nat.le_refl _) h
    simp only [List.length_cons, List.length_nil] at this ⊢
    omega
  · cases h

theorem number_in {s r : List UInt8} {n : Int} (h : Off.number s = some (n, r)) : Off.I64 n := by
  unfold Off.number at h
  split at h
  · cases h
  · rename_i v hv
    split at h
    · cases h
      unfold Off.atoiV at hv
      split at hv
      · rename_i u hu; cases hv; exact Lib.atoiAll_bounds hu
      · cases hv
    · cases h
theorem block_in {s r : List UInt8} {i : Off.Bid} (h : Off.block s = some (i, r)) : Off.I64 i.R ∧ Off.I64 i.N := by
  unfold Off.block at h
  cases hh : Off.readId (Off.word s).1 with
  | none => rw [hh] at h; cases h
  | some j => rw [hh] at h; simp at h; rw [← h.1]; exact readId_in hh

theorem i64_zero : Off.I64 0 := ⟨by decide, by decide⟩

theorem command_fits {s r : List UInt8} {c : Off.Cmd} (hs : s.length ≤ 1000000) (h : Off.command s = some (c, r)) : CmdFits c := by
  have hz := i64_zero
  have hb : (Off.word s).2.length ≤ s.length := behind_le 32 s
  unfold Off.command at h
  generalize (Off.word s).2 = s0 at h hb
  unfold Off.commandOf at h
  split at h
  · obtain ⟨⟨f, s1⟩, h1, h⟩ := Option.bind_eq_some_iff.1 h
    obtain ⟨⟨b, s2⟩, h2, h⟩ := Option.bind_eq_some_iff.1 h
    obtain ⟨⟨t, s3⟩, h3, h⟩ := Option.bind_eq_some_iff.1 h
    cases h
    have a1 := in_rest h1; have a2 := block_rest h2; have a3 := text_len h3
    exact ⟨(block_in h2).1, (block_in h2).2, hz, hz, hz, hz, by simp only; omega⟩
  split at h
  · obtain ⟨⟨b, s1⟩, h1, h⟩ := Option.bind_eq_some_iff.1 h
    obtain ⟨⟨p, s2⟩, h2, h⟩ := Option.bind_eq_some_iff.1 h
    obtain ⟨⟨t, s3⟩, h3, h⟩ := Option.bind_eq_some_iff.1 h
    cases h
    have a1 := block_rest h1; have a2 := number_rest h2; have a3 := text_len h3
    exact ⟨(block_in h1).1, (block_in h1).2, hz, hz, number_in h2, hz, by simp only; omega⟩
  split at h
  · obtain ⟨⟨b, s1⟩, h1, h⟩ := Option.bind_eq_some_iff.1 h
    obtain ⟨⟨p, s2⟩, h2, h⟩ := Option.bind_eq_some_iff.1 h
    obtain ⟨⟨n, s3⟩, h3, h⟩ := Option.bind_eq_some_iff.1 h
    cases h
    exact ⟨(block_in h1).1, (block_in h1).2, hz, hz, number_in h2, number_in h3, by simp⟩
  split at h
  · obtain ⟨⟨b, s1⟩, h1, h⟩ := Option.bind_eq_some_iff.1 h
    obtain ⟨⟨p, s2⟩, h2, h⟩ := Option.bind_eq_some_iff.1 h
    cases h
    exact ⟨(block_in h1).1, (block_in h1).2, hz, hz, number_in h2, hz, by simp⟩
  split at h
  · obtain ⟨⟨f, s1⟩, h1, h⟩ := Option.bind_eq_some_iff.1 h
    obtain ⟨⟨b, s2⟩, h2, h⟩ := Option.bind_eq_some_iff.1 h
    obtain ⟨⟨o, s3⟩, h3, h⟩ := Option.bind_eq_some_iff.1 h
    cases h
    exact ⟨(block_in h2).1, (block_in h2).2, (block_in h3).1, (block_in h3).2, hz, hz, by simp⟩
  split at h
  · obtain ⟨⟨b, s1⟩, h1, h⟩ := Option.bind_eq_some_iff.1 h
    obtain ⟨⟨o, s2⟩, h2, h⟩ := Option.bind_eq_some_iff.1 h
    obtain ⟨⟨t, s3⟩, h3, h⟩ := Option.bind_eq_some_iff.1 h
    cases h
    have a1 := block_rest h1; have a2 := block_rest h2; have a3 := text_len h3
    exact ⟨(block_in h1).1, (block_in h1).2, (block_in h2).1, (block_in h2).2, hz, hz, by simp only; omega⟩
  split at h
  · cases h
  · obtain ⟨⟨b, s1⟩, h1, h⟩ := Option.bind_eq_some_iff.1 h
    cases h
    exact ⟨(block_in h1).1, (block_in h1).2, hz, hz, hz, hz, by simp⟩

theorem cmdFits_zero : CmdFits Off.Cmd.z := ⟨i64_zero, i64_zero, i64_zero, i64_zero, i64_zero, i64_zero, by decide⟩

theorem event_fits {l r : List UInt8} {ev : Off.Ev} (hl : l.length ≤ 1000000) (h : Off.event l = some (ev, r)) : EvFits ev := by
  have hz := i64_zero
  have hc := cmdFits_zero
  have hb : (Off.word l).2.length ≤ l.length := behind_le 32 l
  unfold Off.event at h
  obtain ⟨⟨n, s1⟩, h1, h⟩ := Option.bind_eq_some_iff.1 h
  have hn := number_in h1
  have hr := number_rest h1
  simp only at h
  unfold Off.eventOf at h
  split at h
  · obtain ⟨⟨c, s2⟩, h2, h⟩ := Option.bind_eq_some_iff.1 h
    cases h
    exact ⟨hn, hz, hz, command_fits (by omega) h2⟩
  split at h
  · cases h; exact ⟨hn, hz, hz, hc⟩
  split at h
  · cases h; exact ⟨hn, hz, hz, hc⟩
  split at h
  · cases h; exact ⟨hn, hz, hz, hc⟩
  split at h
  · cases h; exact ⟨hn, hz, hz, hc⟩
  split at h
  · obtain ⟨⟨k, s2⟩, h2, h⟩ := Option.bind_eq_some_iff.1 h
    cases h; exact ⟨hn, hz, number_in h2, hc⟩
  split at h
  · obtain ⟨⟨k, s2⟩, h2, h⟩ := Option.bind_eq_some_iff.1 h
    cases h; exact ⟨hn, number_in h2, hz, hc⟩
  split at h
  · cases h; exact ⟨hn, hz, hz, hc⟩
  split at h
  · cases h; exact ⟨hn, hz, hz, hc⟩
  · cases h

end Go.Proofs.YtkpenijilnagjaaDoor
