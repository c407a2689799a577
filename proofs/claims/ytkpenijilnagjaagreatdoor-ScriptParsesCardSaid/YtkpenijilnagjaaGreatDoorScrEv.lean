/- What is shown of an event is read again as the event. No program in sight. -/
import Derived.Test.YtkpenijilnagjaaGreatDoorScrLaw
namespace Off
open Go

structure EvIn (e : Ev) : Prop where
  n : I64 e.n
  to : I64 e.to
  keep : I64 e.keep
  cmd : CmdIn e.cmd

theorem event_at {s w r r' : Bs} {n : Int} (h : word s = (w, r)) (hn : number r = some (n, r')) : event s = eventOf w n r' := by
  rw [show event s = (number (word s).2).bind fun (n, r) => eventOf (word s).1 n r from rfl, h]
  simp only
  rw [hn]
  rfl

theorem joinW_cons {a b : Bs} {r : List Bs} : joinW (a :: b :: r) = a ++ 32 :: joinW (b :: r) := rfl

theorem cmdWords_ne (c : Cmd) : ∃ a r, cmdWords c = a :: r := by
  unfold cmdWords
  split
  · exact ⟨_, _, rfl⟩
  · split
    · exact ⟨_, _, rfl⟩
    · split
      · exact ⟨_, _, rfl⟩
      · split
        · exact ⟨_, _, rfl⟩
        · split
          · exact ⟨_, _, rfl⟩
          · split <;> exact ⟨_, _, rfl⟩

theorem event_line {e : Ev} (hin : EvIn e) (hok : evOk e = true) : ∃ r, event (evLine e) = some (e, r) := by
  obtain ⟨kind, n, to, keep, f, c⟩ := e
  have hn := hin.n
  have hto := hin.to
  have hk := hin.keep
  have hc := hin.cmd
  simp only at hn hto hk hc
  unfold evOk at hok
  simp only [Bool.and_eq_true, decide_eq_true_eq] at hok
  obtain ⟨⟨ht, hw⟩, hr⟩ := hok
  unfold evTold at ht
  simp only at ht
  unfold evWords at hw
  unfold evLine evWords
  simp only at hw ⊢
  by_cases h1 : kind = 1
  · subst h1
    simp only [if_true, Ev.mk.injEq, true_and] at ht
    obtain ⟨rfl, rfl, rfl, ht⟩ := ht
    unfold rightEv at hr
    simp only [ne_eq, not_true_eq_false, decide_false, Bool.false_or, Bool.and_eq_true, decide_eq_true_eq] at hr
    obtain ⟨⟨⟨g1, g2⟩, g3⟩, g4⟩ := hr
    obtain ⟨r, hr⟩ := command_words hc ht g1 g2 g3 g4
    obtain ⟨a, l, hal⟩ := cmdWords_ne c
    refine ⟨r, ?_⟩
    simp only [if_true, List.cons_append, List.nil_append]
    rw [hal, joinW_cons, joinW_cons, ← hal, event_at (word_append (a := sDo) (by decide) _) (number_of (word_append (itoa32 n) _) hn)]
    unfold eventOf
    rw [if_pos rfl, hr]
    rfl
  · rw [if_neg h1] at ht hw ⊢
    by_cases h6 : kind = 6
    · subst h6
      simp only [if_true, Ev.mk.injEq, true_and] at ht
      obtain ⟨rfl, rfl, rfl⟩ := ht
      refine ⟨[], ?_⟩
      rw [if_neg (by decide), if_neg (by decide), if_neg (by decide), if_neg (by decide), if_pos rfl, joinW_cons, joinW_cons,
        event_at (word_append (a := sCrash) (by decide) _) (number_of (word_append (itoa32 n) _) hn)]
      unfold eventOf
      rw [if_neg (by decide), if_neg (by decide), if_neg (by decide), if_neg (by decide), if_neg (by decide), if_pos rfl, joinW,
        number_of (word_self (itoa32 keep)) hk]
      rfl
    · rw [if_neg h6] at ht
      by_cases h3 : kind = 3
      · subst h3
        simp only [if_true, Ev.mk.injEq, true_and] at ht
        obtain ⟨rfl, rfl, rfl⟩ := ht
        refine ⟨[], ?_⟩
        rw [if_neg (by decide), if_neg (by decide), if_neg (by decide), if_neg (by decide), if_neg (by decide), if_pos rfl, joinW_cons, joinW_cons,
          event_at (word_append (a := sTell) (by decide) _) (number_of (word_append (itoa32 n) _) hn)]
        unfold eventOf
        rw [if_neg (by decide), if_neg (by decide), if_neg (by decide), if_neg (by decide), if_neg (by decide), if_neg (by decide), if_pos rfl, joinW,
          number_of (word_self (itoa32 to)) hto]
        rfl
      · rw [if_neg h3] at ht
        have two : ∀ (w : Bs) (k : Int) (g : Bool), (32 : UInt8) ∉ w → (∀ r, eventOf w n r = some (⟨k, n, 0, 0, g, .z⟩, r)) →
            event (joinW [w, Lib.itoa n]) = some (⟨k, n, 0, 0, g, .z⟩, []) := by
          intro w k g h32 h
          rw [joinW_cons, joinW, event_at (word_append h32 _) (number_of (word_self (itoa32 n)) hn), h]
        by_cases h4 : kind = 4
        · subst h4
          simp only [if_true, Ev.mk.injEq, true_and] at ht
          obtain ⟨rfl, rfl, rfl⟩ := ht
          refine ⟨[], ?_⟩
          rw [if_neg (by decide), if_neg (by decide), if_neg (by decide), if_neg (by decide), if_neg (by decide), if_neg (by decide), if_pos rfl]
          cases f
          · exact two sDeliver 4 false (by decide) (fun r => rfl)
          · exact two sCopy 4 true (by decide) (fun r => rfl)
        · rw [if_neg h4] at ht
          simp only [Ev.mk.injEq, true_and] at ht
          obtain ⟨rfl, rfl, rfl, rfl⟩ := ht
          refine ⟨[], ?_⟩
          by_cases h2 : kind = 2
          · subst h2; rw [if_pos rfl]; exact two sSync 2 false (by decide) (fun r => rfl)
          · rw [if_neg h2] at hw ⊢
            by_cases h8 : kind = 8
            · subst h8; rw [if_pos rfl]; exact two sCompact 8 false (by decide) (fun r => rfl)
            · rw [if_neg h8] at hw ⊢
              by_cases h7 : kind = 7
              · subst h7; rw [if_pos rfl]; exact two sStart 7 false (by decide) (fun r => rfl)
              · rw [if_neg h7] at hw ⊢
                by_cases h5 : kind = 5
                · subst h5; rw [if_pos rfl]; exact two sDrop 5 false (by decide) (fun r => rfl)
                · rw [if_neg h5, if_neg h6, if_neg h3, if_neg h4] at hw
                  exact absurd hw (by decide)

theorem parse_show {e : Ev} (hin : EvIn e) (hok : evOk e = true) : parseLine (evLine e) = some e := by
  obtain ⟨r, hr⟩ := event_line hin hok
  unfold parseLine
  rw [hr]
  simp only
  rw [if_pos ⟨hok, trivial⟩]

theorem parse_some {l : Bs} {e : Ev} (h : parseLine l = some e) : evOk e = true ∧ evLine e = l := by
  unfold parseLine at h
  split at h
  · cases h
  · split at h
    · rename_i hh; cases h; exact hh
    · cases h

end Off
