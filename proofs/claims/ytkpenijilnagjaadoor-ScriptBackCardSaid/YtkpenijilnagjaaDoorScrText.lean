/- A script's lines: split, parsed line by line, shown, joined. No program in sight. -/
import Derived.Test.YtkpenijilnagjaaDoorScrEv
import Derived.Lib.SplitLaws
import Derived.Lib.Split
namespace Off
open Go

def lines : Bs → List Bs
  | [] => [[]]
  | b :: l => if b = 10 then [] :: lines l else match lines l with
    | [] => [[b]]
    | x :: r => (b :: x) :: r

theorem lines_ne : ∀ s, lines s ≠ []
  | [] => by simp [lines]
  | b :: l => by
    unfold lines
    split
    · simp
    · split <;> simp
theorem lines_miss : ∀ {s : Bs}, (10 : UInt8) ∉ s → lines s = [s]
  | [], _ => rfl
  | b :: l, h => by
    have h1 : b ≠ 10 := fun e => h (by simp [e])
    have h2 : (10 : UInt8) ∉ l := fun e => h (by simp [e])
    rw [lines, if_neg h1, lines_miss h2]
theorem lines_hit : ∀ {a : Bs} (r : Bs), (10 : UInt8) ∉ a → lines (a ++ 10 :: r) = a :: lines r
  | [], r, _ => by rw [List.nil_append, lines, if_pos rfl]
  | b :: l, r, h => by
    have h1 : b ≠ 10 := fun e => h (by simp [e])
    have h2 : (10 : UInt8) ∉ l := fun e => h (by simp [e])
    rw [List.cons_append, lines, if_neg h1, lines_hit r h2]
theorem lines_length_le : ∀ s, (lines s).length ≤ s.length + 1
  | [] => by simp [lines]
  | b :: l => by
    have ih := lines_length_le l
    unfold lines
    split
    · simp; omega
    · split
      · simp
      · rename_i x r hx
        rw [hx] at ih
        simp only [List.length_cons] at ih ⊢
        omega
/-- what stands ahead of the first end of a line, if there is one -/
theorem lines_cases (s : Bs) : (10 ∉ s ∧ lines s = [s]) ∨ ∃ a r, s = a ++ 10 :: r ∧ (10 : UInt8) ∉ a ∧ lines s = a :: lines r := by
  by_cases h : (10 : UInt8) ∈ s
  · right
    obtain ⟨a, r, rfl, ha⟩ := List.eq_append_cons_of_mem h
    exact ⟨a, r, rfl, ha, lines_hit r ha⟩
  · exact .inl ⟨h, lines_miss h⟩

/-- the events of lines, the first of which is line i (counted from 0); or the number of the line that is none -/
def parseL (i : Nat) : List Bs → Except Nat (List Ev)
  | [] => .ok []
  | [z] => if z = [] then .ok [] else .error (i + 1)
  | l :: m :: r => match parseLine l with
    | none => .error (i + 1)
    | some e => match parseL (i + 1) (m :: r) with
      | .ok l => .ok (e :: l)
      | .error k => .error k
def parseT (s : Bs) : Except Nat (List Ev) := parseL 0 (lines s)

theorem parseL_cons {i : Nat} {l : Bs} {ls : List Bs} (h : ls ≠ []) : parseL i (l :: ls) = match parseLine l with
    | none => .error (i + 1)
    | some e => match parseL (i + 1) ls with
      | .ok l => .ok (e :: l)
      | .error k => .error k := by
  cases ls with
  | nil => exact absurd rfl h
  | cons m r => rw [parseL.eq_def]

/-- a shift of the count -/
theorem parseL_shift : ∀ (ls : List Bs) (i : Nat), parseL i ls = match parseL 0 ls with | .ok l => .ok l | .error k => .error (i + k)
  | [], i => rfl
  | [z], i => by
    by_cases h : z = []
    · simp [parseL, h]
    · simp [parseL, h]
  | l :: m :: r, i => by
    rw [parseL_cons (i := i) (l := l) (ls := m :: r) (by simp), parseL_cons (i := 0) (l := l) (ls := m :: r) (by simp)]
    cases parseLine l with
    | none => simp
    | some e =>
      simp only
      rw [parseL_shift (m :: r) (i + 1), parseL_shift (m :: r) (0 + 1)]
      cases parseL 0 (m :: r) with
      | ok l => rfl
      | error k => simp only; congr 1; omega

theorem parseL_pos : ∀ {ls : List Bs} {i k : Nat}, parseL i ls = .error k → i < k
  | [], i, k, h => by cases h
  | [z], i, k, h => by
    rw [parseL] at h
    split at h
    · cases h
    · cases h; omega
  | l :: m :: r, i, k, h => by
    rw [parseL_cons (l := l) (ls := m :: r) (by simp)] at h
    cases hp : parseLine l with
    | none => rw [hp] at h; cases h; omega
    | some e =>
      rw [hp] at h
      simp only at h
      cases hr : parseL (i + 1) (m :: r) with
      | ok l => rw [hr] at h; cases h
      | error k' => rw [hr] at h; cases h; have := parseL_pos hr; omega

/-- a text that is parsed whole ends a line; what stands behind it is parsed as it is alone -/
theorem parseT_append : ∀ (n : Nat) {a b : Bs} {x : List Ev}, a.length ≤ n → parseT a = .ok x →
    parseT (a ++ b) = match parseT b with | .ok y => .ok (x ++ y) | .error k => .error (x.length + k)
  | n, a, b, x, hn, h => by
    unfold parseT at h ⊢
    rcases lines_cases a with ⟨hm, hl⟩ | ⟨c, r, rfl, hc, hl⟩
    · rw [hl, parseL] at h
      split at h
      · rename_i ha
        cases h
        subst ha
        simp only [List.nil_append, List.length_nil, Nat.zero_add]
        cases parseL 0 (lines b) <;> rfl
      · cases h
    · rw [hl, parseL_cons (lines_ne r)] at h
      have hl2 : lines ((c ++ 10 :: r) ++ b) = c :: lines (r ++ b) := by rw [List.append_assoc, List.cons_append]; exact lines_hit (r ++ b) hc
      rw [hl2, parseL_cons (lines_ne _)]
      cases hp : parseLine c with
      | none => rw [hp] at h; cases h
      | some e =>
        rw [hp] at h
        simp only at h ⊢
        rw [parseL_shift] at h ⊢
        cases hr : parseL 0 (lines r) with
        | error k => rw [hr] at h; cases h
        | ok y =>
          rw [hr] at h
          cases h
          cases n with
          | zero => simp at hn
          | succ n =>
            have ih := parseT_append n (a := r) (b := b) (x := y) (by simp at hn; omega) hr
            unfold parseT at ih
            rw [ih]
            cases parseL 0 (lines b) with
            | ok z => rfl
            | error k => simp only [List.length_cons]; congr 1; omega

/-- events as a text; or the first that no line tells -/
def showL (i : Nat) : List Ev → Except Nat Bs
  | [] => .ok []
  | e :: l => if evOk e = true then match showL (i + 1) l with
      | .ok t => .ok (evLine e ++ 10 :: t)
      | .error k => .error k
    else .error i

theorem parse_ok_lines : ∀ (n : Nat) {s : Bs} {l : List Ev}, s.length ≤ n → parseT s = .ok l → ∀ i, showL i l = .ok s
  | n, s, l, hn, h, i => by
    unfold parseT at h
    rcases lines_cases s with ⟨hm, hl⟩ | ⟨c, r, rfl, hc, hl⟩
    · rw [hl, parseL] at h
      split at h
      · rename_i hs; cases h; rw [hs]; rfl
      · cases h
    · rw [hl, parseL_cons (lines_ne r)] at h
      cases hp : parseLine c with
      | none => rw [hp] at h; cases h
      | some e =>
        rw [hp] at h
        simp only at h
        rw [parseL_shift] at h
        cases hr : parseL 0 (lines r) with
        | error k => rw [hr] at h; cases h
        | ok y =>
          rw [hr] at h
          cases h
          cases n with
          | zero => simp at hn
          | succ n =>
            have ih := parse_ok_lines n (s := r) (l := y) (by simp at hn; omega) hr (i + 1)
            obtain ⟨h1, h2⟩ := parse_some hp
            rw [showL, if_pos h1, ih, h2]

theorem joinW_not {c : UInt8} (h32 : c ≠ 32) : ∀ {ws : List Bs}, (∀ w ∈ ws, c ∉ w) → c ∉ joinW ws
  | [], _ => by simp [joinW]
  | [a], h => by rw [joinW]; exact h a (by simp)
  | a :: b :: r, h => by
    rw [joinW]
    have := joinW_not h32 (ws := b :: r) fun w hw => h w (by simp [hw])
    simp only [List.mem_append, List.mem_cons, not_or]
    exact ⟨h a (by simp), h32, this⟩

theorem quoteByte_ten (c : UInt8) : (10 : UInt8) ∉ quoteByte c := fin_byte (P := fun c => (10 : UInt8) ∉ quoteByte c) (by decide +kernel) c
theorem quoted_ten (t : Bs) : (10 : UInt8) ∉ quoted t := by
  unfold quoted
  simp only [List.mem_cons, List.mem_append, List.mem_flatMap, List.not_mem_nil, or_false, not_or, not_exists, not_and]
  exact ⟨by decide, fun c _ => quoteByte_ten c, by decide⟩
theorem itoa_ten (n : Int) : (10 : UInt8) ∉ Lib.itoa n := itoa_not (by decide) (by decide)
theorem show_ten (i : Bid) : (10 : UInt8) ∉ showId i := showId_not i (.inr (.inr rfl))
theorem where_ten (f : Bool) : (10 : UInt8) ∉ whereW f := by cases f <;> decide
theorem plainW_ten (c : Cmd) : (10 : UInt8) ∉ plainW c := by
  unfold plainW
  repeat' split
  all_goals decide
theorem cmdWords_ten (c : Cmd) : ∀ w ∈ cmdWords c, (10 : UInt8) ∉ w := by
  have h1 := show_ten c.block; have h2 := show_ten c.other; have h3 := itoa_ten c.pos; have h4 := itoa_ten c.n; have h5 := quoted_ten c.text; have h6 := where_ten c.flag; have h7 := plainW_ten c
  have l1 : (10 : UInt8) ∉ sNew := by decide
  have l2 : (10 : UInt8) ∉ sType := by decide
  have l3 : (10 : UInt8) ∉ sErase := by decide
  have l4 : (10 : UInt8) ∉ sSplit := by decide
  have l5 : (10 : UInt8) ∉ sMove := by decide
  have l6 : (10 : UInt8) ∉ sPlace := by decide
  unfold cmdWords
  intro w hw
  repeat' split at hw
  all_goals
    simp only [List.mem_cons, List.not_mem_nil, or_false] at hw
  all_goals
    rcases hw with rfl | hw
    · assumption
  all_goals
    rcases hw with rfl | hw
    · assumption
  all_goals
    rcases hw with rfl | rfl <;> assumption
theorem evLine_ten (e : Ev) : (10 : UInt8) ∉ evLine e := by
  have h1 := itoa_ten e.n; have h2 := itoa_ten e.to; have h3 := itoa_ten e.keep
  have hc := cmdWords_ten e.cmd
  refine joinW_not (by decide) ?_
  have l1 : (10 : UInt8) ∉ sDo := by decide
  have l2 : (10 : UInt8) ∉ sSync := by decide
  have l3 : (10 : UInt8) ∉ sCompact := by decide
  have l4 : (10 : UInt8) ∉ sStart := by decide
  have l5 : (10 : UInt8) ∉ sDrop := by decide
  have l6 : (10 : UInt8) ∉ sCrash := by decide
  have l7 : (10 : UInt8) ∉ sTell := by decide
  have l8 : (10 : UInt8) ∉ sCopy := by decide
  have l9 : (10 : UInt8) ∉ sDeliver := by decide
  unfold evWords
  intro w hw
  split at hw
  · rcases List.mem_append.1 hw with hw | hw
    · simp only [List.mem_cons, List.not_mem_nil, or_false] at hw
      rcases hw with rfl | rfl <;> assumption
    · exact hc w hw
  · repeat' split at hw
    all_goals simp only [List.mem_cons, List.not_mem_nil, or_false] at hw
    all_goals first
      | (rcases hw with rfl | rfl | rfl <;> assumption)
      | (rcases hw with rfl | rfl <;> assumption)

theorem show_parse : ∀ {l : List Ev} {t : Bs} {i : Nat}, (∀ e ∈ l, EvIn e) → showL i l = .ok t → parseT t = .ok l
  | [], t, i, _, h => by cases h; rfl
  | e :: l, t, i, hin, h => by
    rw [showL] at h
    split at h
    · rename_i hok
      cases hr : showL (i + 1) l with
      | error k => rw [hr] at h; cases h
      | ok u =>
        rw [hr] at h
        cases h
        have ih := show_parse (fun e he => hin e (by simp [he])) hr
        unfold parseT at ih ⊢
        rw [lines_hit u (evLine_ten e), parseL_cons (lines_ne u), parse_show (hin e (by simp)) hok]
        simp only
        rw [parseL_shift, ih]
    · cases h
theorem showL_lt : ∀ {l : List Ev} {i k : Nat}, showL i l = .error k → i ≤ k ∧ k < i + l.length
  | [], i, k, h => by cases h
  | e :: l, i, k, h => by
    rw [showL] at h
    split at h
    · cases hr : showL (i + 1) l with
      | ok u => rw [hr] at h; cases h
      | error k' =>
        rw [hr] at h; cases h
        have := showL_lt hr
        simp only [List.length_cons]; omega
    · cases h; simp
theorem showL_lines : ∀ {l : List Ev} {t : Bs} {i : Nat}, showL i l = .ok t → (lines t).length = l.length + 1
  | [], t, i, h => by cases h; rfl
  | e :: l, t, i, h => by
    rw [showL] at h
    split at h
    · cases hr : showL (i + 1) l with
      | error k => rw [hr] at h; cases h
      | ok u =>
        rw [hr] at h; cases h
        rw [lines_hit u (evLine_ten e), List.length_cons, showL_lines hr, List.length_cons]
    · cases h

/-! what strings.Split gives, by an end of a line -/
theorem index_ten (c : UInt8) : ∀ s : Bs, Lib.index s [c] = Lib.indexByte s c
  | [] => rfl
  | b :: l => by
    unfold Lib.index Lib.indexByte
    rw [index_ten c l]
    by_cases h : b = c
    · subst h; simp
    · have h' : ¬ c = b := fun e => h e.symm
      simp [h, h']
theorem indexByte_cases (c : UInt8) : ∀ s : Bs, (Lib.indexByte s c = -1 ∧ c ∉ s) ∨ ∃ k : Nat, Lib.indexByte s c = k ∧ s = s.take k ++ c :: s.drop (k + 1) ∧ c ∉ s.take k
  | [] => .inl ⟨rfl, by simp⟩
  | b :: l => by
    unfold Lib.indexByte
    by_cases h : b = c
    · subst h; exact .inr ⟨0, by simp, by simp, by simp⟩
    · rcases indexByte_cases c l with ⟨h1, h2⟩ | ⟨k, h1, h2, h3⟩
      · exact .inl ⟨by simp [h, h1], by simp [h2]; exact fun e => h e.symm⟩
      · refine .inr ⟨k + 1, ?_, ?_, ?_⟩
        · simp only [beq_iff_eq, h, if_false, h1]
          rw [if_neg (by omega)]
          rfl
        · simp only [List.take_succ_cons, List.drop_succ_cons, List.cons_append]; rw [← h2]
        · simp only [List.take_succ_cons, List.mem_cons, not_or]; exact ⟨fun e => h e.symm, h3⟩

theorem splitB_lines : ∀ (k : Nat) (s : ByteArray), Lib.countB s ⟨#[10]⟩ = k → (Lib.splitB ⟨#[10]⟩ 0 k s).map (·.data.toList) = lines s.data.toList := by
  have hi : ∀ s : ByteArray, Lib.indexB s ⟨#[10]⟩ = Lib.indexByte s.data.toList 10 := fun s => by
    rw [← index_ten]
  intro k
  induction k with
  | zero =>
    intro s hs
    rw [Lib.splitB_zero, List.map_cons, List.map_nil]
    rcases indexByte_cases 10 s.data.toList with ⟨_, h2⟩ | ⟨j, h1, _, _⟩
    · rw [lines_miss h2]
    · have := Lib.countB_hit s ⟨#[10]⟩ j (by decide) ((hi s).trans h1)
      omega
  | succ k ih =>
    intro s hs
    rcases indexByte_cases 10 s.data.toList with ⟨h1, h2⟩ | ⟨j, h1, h2, h3⟩
    · have := Lib.countB_miss s ⟨#[10]⟩ ((hi s).trans h1)
      omega
    · have hc := Lib.countB_hit s ⟨#[10]⟩ j (by decide) ((hi s).trans h1)
      rw [Lib.splitB_hit _ _ _ _ j ((hi s).trans h1), List.map_cons, ih _ (by omega)]
      have e1 : (s.extract 0 (j + 0)).data.toList = s.data.toList.take j := by rw [Lib.extract_data]; simp
      have e2 : (s.extract (j + (ByteArray.mk #[10]).size) s.size).data.toList = s.data.toList.drop (j + 1) := by
        rw [Lib.extract_data]
        show List.take (s.size - (j + 1)) (List.drop (j + 1) s.data.toList) = _
        rw [List.take_of_length_le]
        rw [List.length_drop]
        exact Nat.le_of_eq (by rw [Array.length_toList]; rfl)
      rw [e1, e2]
      conv => rhs; rw [h2]
      rw [lines_hit _ h3]

end Off
