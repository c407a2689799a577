/- What is plain about events and scripts: how long, how many, how great their numbers. -/
import Derived.Test.YtkpenijilnagjaaDoorAlive
namespace Go.Proofs.YtkpenijilnagjaaDoor
open Go.RowKit

theorem lines_few {s : List UInt8} (h : s.length ≤ 9999) : (Off.lines s).length ≤ 10000 := by
  have := Off.lines_length_le s; omega
theorem parseL_few : ∀ {ls : List (List UInt8)} {i : Nat} {l : List Off.Ev}, Off.parseL i ls = .ok l → l.length ≤ ls.length
  | [], i, l, h => by cases h; simp
  | [z], i, l, h => by
    rw [Off.parseL] at h
    split at h
    · cases h; simp
    · cases h
  | a :: b :: r, i, l, h => by
    rw [Off.parseL_cons (by simp)] at h
    cases hp : Off.parseLine a with
    | none => rw [hp] at h; cases h
    | some e =>
      rw [hp] at h
      simp only at h
      cases hr : Off.parseL (i + 1) (b :: r) with
      | error k => rw [hr] at h; cases h
      | ok l' =>
        rw [hr] at h; cases h
        have := parseL_few hr
        simp only [List.length_cons] at this ⊢; omega
theorem parseT_few {s : List UInt8} {l : List Off.Ev} (h : Off.parseT s = .ok l) : l.length ≤ s.length + 1 :=
  Nat.le_trans (parseL_few h) (Off.lines_length_le s)

theorem parseL_err_le : ∀ {ls : List (List UInt8)} {i k : Nat}, Off.parseL i ls = .error k → k ≤ i + ls.length
  | [], i, k, h => by cases h
  | [z], i, k, h => by
    rw [Off.parseL] at h
    split at h
    · cases h
    · cases h; simp
  | a :: b :: r, i, k, h => by
    rw [Off.parseL_cons (by simp)] at h
    cases hp : Off.parseLine a with
    | none => rw [hp] at h; cases h; simp
    | some e =>
      rw [hp] at h
      simp only at h
      cases hr : Off.parseL (i + 1) (b :: r) with
      | ok l' => rw [hr] at h; cases h
      | error k' =>
        rw [hr] at h; cases h
        have := parseL_err_le hr
        simp only [List.length_cons] at this ⊢; omega
theorem parseT_err_le {s : List UInt8} {k : Nat} (h : Off.parseT s = .error k) : k ≤ s.length + 1 := by
  have h1 := parseL_err_le h
  have h2 := Off.lines_length_le s
  omega
theorem ParseTPost.shape {w w' : World} {r : Except Nat (List Off.Ev)} {e : Ending} (h : ParseTPost w r e w') :
    (∃ (a : Option Addr) (n c : Nat) (k g : Int), e = .returned (.tuple #[.slice a n c, .int .i64 k, .int .i64 g])) ∧ Keeps No w w' := by
  obtain ⟨h, kk⟩ := h
  refine ⟨?_, kk⟩
  cases r with
  | error k => exact ⟨none, 0, 0, k, 10, h⟩
  | ok l =>
    obtain ⟨v, rfl, ho⟩ := h
    rcases ho.2 with ⟨rfl, _⟩ | ⟨g, cap, cur, rfl, _⟩
    · exact ⟨none, 0, 0, 0, 0, rfl⟩
    · exact ⟨some ⟨g, 0, none⟩, l.length, cap, 0, 0, rfl⟩

/-- the numbers of an event are ints -/
def EvNums (e : Off.Ev) : Prop := Off.I64 e.n ∧ Off.I64 e.to ∧ Off.I64 e.keep ∧ Off.I64 e.cmd.block.R ∧ Off.I64 e.cmd.block.N ∧ Off.I64 e.cmd.other.R ∧ Off.I64 e.cmd.other.N ∧ Off.I64 e.cmd.pos ∧ Off.I64 e.cmd.n
theorem EvNums.fits {e : Off.Ev} (h : EvNums e) (ht : e.cmd.text.length ≤ 100) : EvFits e := by
  obtain ⟨h1, h2, h3, h4, h5, h6, h7, h8, h9⟩ := h
  exact ⟨h1, h2, h3, h4, h5, h6, h7, h8, h9, by omega⟩
theorem EvFits.isIn {e : Off.Ev} (h : EvFits e) : Off.EvIn e := ⟨h.1, h.2.1, h.2.2.1, ⟨h.2.2.2.2.2.2.2.1, h.2.2.2.2.2.2.2.2.1⟩⟩

theorem evLine_small {e : Off.Ev} (h : EvFits e) (ht : e.cmd.text.length ≤ 100) : (Off.evLine e).length ≤ 5000 := by
  obtain ⟨h1, h2, h3, g1, g2, g3, g4, g5, g6, g7⟩ := h
  have a1 := itoa_len e.n h1
  have a2 := itoa_len e.to h2
  have a3 := itoa_len e.keep h3
  have b1 := showId_len e.cmd.block g1 g2
  have b2 := showId_len e.cmd.other g3 g4
  have b3 := itoa_len e.cmd.pos g5
  have b4 := itoa_len e.cmd.n g6
  have b5 := quoted_len e.cmd.text
  have b6 := plainW_len e.cmd
  have b7 := whereW_len e.cmd.flag
  have hc : ((Off.cmdWords e.cmd).map fun x : Off.Bs => x.length + 1).sum ≤ 4000 := by
    unfold Off.cmdWords
    repeat' split
    all_goals (simp [Off.sNew, Off.sType, Off.sErase, Off.sSplit, Off.sMove, Off.sPlace]; omega)
  refine Nat.le_trans (joinW_len _) ?_
  unfold Off.evWords
  split
  · simp only [List.map_append, List.sum_append, List.map_cons, List.map_nil, List.sum_cons, List.sum_nil, Off.sDo, List.length_cons, List.length_nil]
    refine Nat.le_trans (Nat.add_le_add_left hc _) ?_
    omega
  · repeat' split
    all_goals (simp [Off.sSync, Off.sCompact, Off.sStart, Off.sDrop, Off.sCrash, Off.sTell, Off.sDeliver, Off.sCopy]; try omega)

theorem showL_len : ∀ {l : List Off.Ev} {i : Nat} {t : List UInt8}, (∀ e ∈ l, (Off.evLine e).length ≤ 5000) → Off.showL i l = .ok t → t.length ≤ l.length * 5001
  | [], i, t, _, h => by cases h; simp
  | e :: l, i, t, hl, h => by
    rw [Off.showL] at h
    split at h
    · cases hr : Off.showL (i + 1) l with
      | error k => rw [hr] at h; cases h
      | ok u =>
        rw [hr] at h; cases h
        have h1 := hl e (by simp)
        have h2 := showL_len (fun e he => hl e (by simp [he])) hr
        simp only [List.length_append, List.length_cons]; omega
    · cases h

theorem parseL_fits : ∀ {ls : List (List UInt8)} {i : Nat} {l : List Off.Ev}, (∀ x ∈ ls, x.length ≤ 1000000) → Off.parseL i ls = .ok l → ∀ e ∈ l, EvFits e
  | [], i, l, _, h => by cases h; simp
  | [z], i, l, _, h => by
    rw [Off.parseL] at h
    split at h
    · cases h; simp
    · cases h
  | a :: b :: r, i, l, hl, h => by
    rw [Off.parseL_cons (by simp)] at h
    cases hp : Off.parseLine a with
    | none => rw [hp] at h; cases h
    | some e =>
      rw [hp] at h
      simp only at h
      cases hr : Off.parseL (i + 1) (b :: r) with
      | error k => rw [hr] at h; cases h
      | ok l' =>
        rw [hr] at h; cases h
        intro x hx
        rcases List.mem_cons.1 hx with rfl | hx
        · unfold Off.parseLine at hp
          split at hp
          · cases hp
          · rename_i e' r' he
            split at hp
            · cases hp; exact event_fits (hl a (by simp)) he
            · cases hp
        · exact parseL_fits (fun x hx => hl x (by simp only [List.mem_cons] at hx ⊢; exact .inr hx)) hr x hx
theorem parseT_fits {s : List UInt8} {l : List Off.Ev} (hs : s.length ≤ 1000000) (h : Off.parseT s = .ok l) : ∀ e ∈ l, EvFits e :=
  parseL_fits (fun _ hx => Nat.le_trans (lines_mem_le hx) hs) h

theorem great_few {l : List Off.Ev} (h : great l = false) : l.length ≤ 150 ∧ ∀ e ∈ l, e.cmd.text.length ≤ 100 := by
  unfold great at h
  rw [Bool.or_eq_false_iff] at h
  refine ⟨by have := of_decide_eq_false h.1; omega, fun e he => ?_⟩
  have := List.any_eq_false.1 h.2 e he
  simpa using this

end Go.Proofs.YtkpenijilnagjaaDoor
