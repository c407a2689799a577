/- What is shown is read again: the plain laws of numbers, names, texts, commands and events. No program in sight. -/
import Derived.Test.YtkpenijilnagjaaGreatDoorScrFns
namespace Off
open Go

/-- a number that an int of 64 bits holds -/
def I64 (n : Int) : Prop := -9223372036854775808 ≤ n ∧ n ≤ 9223372036854775807

/-! cutting -/
theorem upto_append {c : UInt8} : ∀ {a : Bs}, c ∉ a → ∀ r, upto c (a ++ c :: r) = a
  | [], _, r => by simp [upto]
  | b :: a, h, r => by
    simp only [List.mem_cons, not_or] at h
    simp only [List.cons_append, upto]
    rw [if_neg (fun e => h.1 e.symm), upto_append h.2]
theorem behind_append {c : UInt8} : ∀ {a : Bs}, c ∉ a → ∀ r, behind c (a ++ c :: r) = r
  | [], _, r => by simp [behind]
  | b :: a, h, r => by
    simp only [List.mem_cons, not_or] at h
    simp only [List.cons_append, behind]
    rw [if_neg (fun e => h.1 e.symm), behind_append h.2]
theorem upto_self {c : UInt8} : ∀ {a : Bs}, c ∉ a → upto c a = a
  | [], _ => rfl
  | b :: a, h => by
    simp only [List.mem_cons, not_or] at h
    simp only [upto]
    rw [if_neg (fun e => h.1 e.symm), upto_self h.2]
theorem behind_self {c : UInt8} : ∀ {a : Bs}, c ∉ a → behind c a = []
  | [], _ => rfl
  | b :: a, h => by
    simp only [List.mem_cons, not_or] at h
    simp only [behind]
    rw [if_neg (fun e => h.1 e.symm), behind_self h.2]

theorem word_append {a : Bs} (h : (32 : UInt8) ∉ a) (r : Bs) : word (a ++ 32 :: r) = (a, r) := by
  simp only [word]; rw [upto_append h, behind_append h]
theorem word_self {a : Bs} (h : (32 : UInt8) ∉ a) : word a = (a, []) := by
  simp only [word]; rw [upto_self h, behind_self h]

/-! numbers -/
theorem dec_bytes (u : Nat) : ∀ b ∈ Lib.decDigits u, (48 : UInt8) ≤ b ∧ b ≤ 57 := by
  induction u using Nat.strongRecOn with
  | _ u ih =>
    intro b hb
    by_cases h : u < 10
    · rw [Lib.decDigits, dif_pos h] at hb
      simp only [List.mem_cons, List.not_mem_nil, or_false] at hb
      subst hb
      rw [UInt8.le_iff_toNat_le, UInt8.le_iff_toNat_le]
      simp; omega
    · rw [Lib.decDigits, dif_neg h, List.mem_append] at hb
      rcases hb with hb | hb
      · exact ih _ (by omega) b hb
      · simp only [List.mem_cons, List.not_mem_nil, or_false] at hb
        subst hb
        rw [UInt8.le_iff_toNat_le, UInt8.le_iff_toNat_le]
        simp; omega

theorem dec_ne_nil (u : Nat) : Lib.decDigits u ≠ [] := by
  rw [Lib.decDigits]; split <;> simp

theorem itoa_bytes (n : Int) : ∀ b ∈ Lib.itoa n, b = 45 ∨ ((48 : UInt8) ≤ b ∧ b ≤ 57) := by
  intro b hb
  unfold Lib.itoa at hb
  split at hb
  · rcases List.mem_cons.1 hb with h | h
    · exact .inl h
    · exact .inr (dec_bytes _ b h)
  · exact .inr (dec_bytes _ b hb)

theorem itoa_not {n : Int} {c : UInt8} (h1 : c ≠ 45) (h2 : c < 48 ∨ 57 < c) : c ∉ Lib.itoa n := by
  intro h
  rcases itoa_bytes n c h with h | ⟨h, h'⟩
  · exact h1 h
  · rw [UInt8.le_iff_toNat_le] at h h'
    rw [UInt8.lt_iff_toNat_lt, UInt8.lt_iff_toNat_lt] at h2
    omega

theorem itoa_ne_nil (n : Int) : Lib.itoa n ≠ [] := by
  unfold Lib.itoa; split
  · simp
  · exact dec_ne_nil _

theorem parse_snoc (c : UInt8) : ∀ (l : Bs) (acc : Nat),
    Lib.parseUint10 acc (l ++ [c]) = match Lib.parseUint10 acc l with
      | .ok u => Lib.parseUint10 u [c]
      | e => e
  | [], acc => by simp [Lib.parseUint10]
  | b :: l, acc => by
    simp only [List.cons_append]
    rw [Lib.parseUint10, Lib.parseUint10.eq_2 (c := b)]
    split
    · split
      · rfl
      · split
        · rfl
        · exact parse_snoc c l _
    · rfl

theorem parse_dec (u : Nat) (h : u < 18446744073709551616) : Lib.parseUint10 0 (Lib.decDigits u) = .ok u := by
  induction u using Nat.strongRecOn with
  | _ u ih =>
    by_cases h10 : u < 10
    · rw [Lib.decDigits, dif_pos h10]
      have e : (UInt8.ofNat (48 + u)).toNat = 48 + u := by simp; omega
      simp only [Lib.parseUint10, e]
      rw [if_pos (by omega), if_neg (by omega), if_neg (by omega)]
      congr 1; omega
    · rw [Lib.decDigits, dif_neg h10, parse_snoc, ih (u / 10) (by omega) (by omega)]
      have e : (UInt8.ofNat (48 + u % 10)).toNat = 48 + u % 10 := by simp; omega
      simp only [Lib.parseUint10, e]
      rw [if_pos (by omega), if_neg (by omega), if_neg (by omega)]
      congr 1; omega

theorem atoi_itoa {n : Int} (h : I64 n) : atoiV (Lib.itoa n) = some n := by
  obtain ⟨h0, h1⟩ := h
  unfold atoiV Lib.itoa
  by_cases hn : n < 0
  · rw [if_pos hn]
    simp only [Lib.atoiAll]
    rw [if_pos (by decide)]
    unfold Lib.parseMag
    rw [if_neg (dec_ne_nil _), parse_dec _ (by omega)]
    simp
    rw [if_neg (by omega)]
    simp; omega
  · rw [if_neg hn]
    have hne := dec_ne_nil n.toNat
    have hb := dec_bytes n.toNat
    have hp := parse_dec n.toNat (by omega)
    cases hd : Lib.decDigits n.toNat with
    | nil => exact absurd hd hne
    | cons c r =>
      rw [hd] at hb hp
      have hc := hb c (List.mem_cons_self ..)
      rw [UInt8.le_iff_toNat_le, UInt8.le_iff_toNat_le] at hc
      have e48 : (48 : UInt8).toNat = 48 := rfl
      have e57 : (57 : UInt8).toNat = 57 := rfl
      rw [e48, e57] at hc
      have h43 : c.toNat ≠ 43 := by omega
      have h45 : c.toNat ≠ 45 := by omega
      simp only [Lib.atoiAll, h43, h45, or_self, if_false, not_false_eq_true, true_and, false_and]
      unfold Lib.parseMag
      rw [if_neg (by simp), hp]
      simp only
      rw [if_neg (by omega)]
      simp; omega

theorem number_of {s r : Bs} {n : Int} (hw : word s = (Lib.itoa n, r)) (h : I64 n) : number s = some (n, r) := by
  unfold number
  rw [hw]
  simp only
  rw [atoi_itoa h]
  simp

/-! names -/
theorem rightOp_iff {i : Bid} : rightOp i = true ↔ 0 ≤ i.R ∧ i.R < 16 ∧ 1 ≤ i.N ∧ i.N ≤ 1048576 := by
  unfold rightOp; simp only [Bool.and_eq_true, decide_eq_true_eq, and_assoc]

theorem showId_not {c : UInt8} (i : Bid) (h : c = 32 ∨ c = 34 ∨ c = 10) : c ∉ showId i := by
  have hi : ∀ n, c ∉ Lib.itoa n := by
    intro n
    rcases h with rfl | rfl | rfl <;> exact itoa_not (by decide) (by decide)
  unfold showId
  split
  · rcases h with rfl | rfl | rfl <;> decide
  · split
    · rcases h with rfl | rfl | rfl <;> decide
    · split
      · rcases h with rfl | rfl | rfl <;> decide
      · simp only [List.mem_append, List.mem_cons, not_or]
        exact ⟨hi _, by rcases h with rfl | rfl | rfl <;> decide, hi _⟩

theorem opOf_show {i : Bid} (h : rightOp i = true) : opOf (Lib.itoa i.R ++ 46 :: Lib.itoa i.N) = i := by
  obtain ⟨h0, h1, h2, h3⟩ := rightOp_iff.1 h
  unfold opOf
  rw [upto_append (itoa_not (by decide) (by decide)), behind_append (itoa_not (by decide) (by decide)),
    atoi_itoa ⟨by omega, by omega⟩, atoi_itoa ⟨by omega, by omega⟩]

theorem itoa_dot_ne (a b : Int) (l : Bs) (h : (46 : UInt8) ∉ l) : Lib.itoa a ++ 46 :: Lib.itoa b ≠ l := by
  intro e
  exact h (e ▸ List.mem_append_right _ (List.mem_cons_self ..))

theorem readId_show {i : Bid} (h : rightBlock i = true) : readId (showId i) = some i := by
  unfold rightBlock at h
  simp only [Bool.or_eq_true, decide_eq_true_eq] at h
  by_cases e1 : i = .z
  · subst e1; unfold showId readId; rw [if_pos rfl, if_pos rfl]
  · by_cases e2 : i = .t
    · subst e2
      have hs : showId .t = sTrash := by unfold showId; rw [if_neg (by decide), if_pos rfl]
      unfold readId
      rw [hs, if_neg (by decide), if_pos rfl]
    · have h3 : rightOp i = true := by
        rcases h with (h | h) | h
        · exact absurd h e1
        · exact absurd h e2
        · exact h
      have hs : showId i = Lib.itoa i.R ++ 46 :: Lib.itoa i.N := by
        unfold showId
        rw [if_neg e1, if_neg e2, if_neg (by rw [h3]; decide)]
      unfold readId
      rw [hs, if_neg (itoa_dot_ne _ _ _ (by decide)), if_neg (itoa_dot_ne _ _ _ (by decide)), opOf_show h3, if_pos ⟨h3, hs⟩]

theorem block_of {s r : Bs} {i : Bid} (hw : word s = (showId i, r)) (h : rightBlock i = true) : block s = some (i, r) := by
  unfold block
  rw [hw]
  simp only
  rw [readId_show h]
  rfl

/-! texts -/
theorem fin_byte {P : UInt8 → Prop} (h : ∀ i : Fin 256, P (UInt8.ofNat i.val)) (c : UInt8) : P c := by
  have := h ⟨c.toNat, c.toNat_lt⟩
  simpa using this

theorem hex_back (c : UInt8) : hexV (hexD (c >>> 4)) = some (c >>> 4) ∧ hexV (hexD (c &&& 15)) = some (c &&& 15) ∧ (c >>> 4) <<< 4 ||| (c &&& 15) = c :=
  fin_byte (P := fun c => hexV (hexD (c >>> 4)) = some (c >>> 4) ∧ hexV (hexD (c &&& 15)) = some (c &&& 15) ∧ (c >>> 4) <<< 4 ||| (c &&& 15) = c) (by decide +kernel) c

theorem textLoop_end (acc r : Bs) : textLoop acc (34 :: r) = some (acc, r) := by rw [textLoop.eq_def]; simp
theorem textLoop_plain (acc : Bs) (c : UInt8) (r : Bs) (h1 : c ≠ 34) (h2 : c ≠ 92) : textLoop acc (c :: r) = textLoop (acc ++ [c]) r := by
  rw [textLoop.eq_def]; simp only; rw [if_neg h1, if_neg h2]
theorem textLoop_esc (acc : Bs) (a b h l : UInt8) (r : Bs) (h1 : hexV a = some h) (h2 : hexV b = some l) : textLoop acc (92 :: a :: b :: r) = textLoop (acc ++ [h <<< 4 ||| l]) r := by
  rw [textLoop.eq_def]; simp only; rw [if_neg (by decide), if_pos trivial, h1]; simp only; rw [h2]
theorem textLoop_quoted (r : Bs) : ∀ (t acc : Bs), textLoop acc (t.flatMap quoteByte ++ 34 :: r) = some (acc ++ t, r)
  | [], acc => by
    simp only [List.flatMap_nil, List.nil_append, List.append_nil]
    exact textLoop_end acc r
  | c :: t, acc => by
    have ih := textLoop_quoted r t
    rw [List.flatMap_cons, List.append_assoc]
    by_cases hp : plainByte c = true
    · rw [show quoteByte c = [c] from if_pos hp]
      unfold plainByte at hp
      simp only [Bool.and_eq_true, decide_eq_true_eq] at hp
      simp only [List.cons_append, List.nil_append]
      rw [textLoop_plain _ _ _ hp.1.2 hp.2, ih]
      simp
    · rw [show quoteByte c = _ from if_neg hp]
      obtain ⟨h1, h2, h3⟩ := hex_back c
      simp only [List.cons_append, List.nil_append]
      rw [textLoop_esc _ _ _ _ _ _ h1 h2, h3, ih]
      simp

theorem text_quoted (t : Bs) : text (quoted t) = some (t, []) := by
  unfold quoted text
  simp only
  rw [textLoop_quoted [] t []]
  simp

theorem scIn_of {s r : Bs} (f : Bool) (hw : word s = (whereW f, r)) : scIn s = some (f, r) := by
  rw [show scIn s = scInOf (word s).1 (word s).2 from rfl, hw]
  cases f <;> rfl

/-! commands -/
theorem command_at {s w r : Bs} (h : word s = (w, r)) : command s = commandOf w r := by
  rw [show command s = commandOf (word s).1 (word s).2 from rfl, h]
structure CmdIn (c : Cmd) : Prop where
  pos : I64 c.pos
  n : I64 c.n

theorem itoa32 (n : Int) : (32 : UInt8) ∉ Lib.itoa n := itoa_not (by decide) (by decide)
theorem show32 (i : Bid) : (32 : UInt8) ∉ showId i := showId_not i (.inl rfl)
theorem where32 (f : Bool) : (32 : UInt8) ∉ whereW f := by cases f <;> decide

theorem command_words {c : Cmd} (hin : CmdIn c) (ht : cmdTold c = c) (h1 : 1 ≤ c.kind) (h14 : c.kind ≤ 14)
    (hb : rightBlock c.block = true) (ho : rightBlock c.other = true) : ∃ r, command (joinW (cmdWords c)) = some (c, r) := by
  obtain ⟨kind, b, p, n, t, f, o⟩ := c
  simp only at h1 h14 hb ho
  have hp := hin.pos
  have hn := hin.n
  simp only at hp hn
  unfold cmdTold at ht
  simp only at ht
  unfold cmdWords
  simp only
  have hk : kind = 1 ∨ kind = 2 ∨ kind = 3 ∨ kind = 4 ∨ kind = 5 ∨ kind = 6 ∨ kind = 7 ∨ kind = 8 ∨ kind = 9 ∨ kind = 10 ∨ kind = 11 ∨ kind = 12 ∨ kind = 13 ∨ kind = 14 := by omega
  have plainCase : ∀ (w : Bs) (k : Int) (f' : Bool), (32 : UInt8) ∉ w → w ≠ sNew → w ≠ sType → w ≠ sErase → w ≠ sSplit → w ≠ sMove → w ≠ sPlace →
      simple w = k → k ≠ 0 → decide (w = sFold) = f' → command (joinW [w, showId b]) = some (⟨k, b, 0, 0, [], f', .z⟩, []) := by
    intro w k f' h32 n1 n2 n3 n4 n5 n6 hs h0 hf
    simp only [joinW]
    rw [command_at (word_append h32 _)]
    unfold commandOf
    rw [if_neg n1, if_neg n2, if_neg n3, if_neg n4, if_neg n5, if_neg n6, if_neg (by rw [hs]; exact h0), block_of (word_self (show32 b)) hb, hs, hf]
    rfl
  rcases hk with rfl | rfl | rfl | rfl | rfl | rfl | rfl | rfl | rfl | rfl | rfl | rfl | rfl | rfl
  · simp only [if_true, Cmd.mk.injEq, true_and] at ht
    obtain ⟨rfl, rfl, rfl⟩ := ht
    refine ⟨[], ?_⟩
    simp only [if_true, joinW]
    rw [command_at (word_append (a := sNew) (by decide) _)]
    unfold commandOf
    rw [if_pos rfl, scIn_of f (word_append (where32 f) _)]
    simp only [Option.bind_some]
    rw [block_of (word_append (show32 b) _) hb]
    simp only [Option.bind_some]
    rw [text_quoted]
    rfl
  · simp at ht
    obtain ⟨rfl, rfl, rfl⟩ := ht
    refine ⟨[], ?_⟩
    simp only [show ((2 : Int) = 1) = False from by simp, if_true, if_false, joinW]
    rw [command_at (word_append (a := sType) (by decide) _)]
    unfold commandOf
    rw [if_neg (by decide), if_pos rfl, block_of (word_append (show32 b) _) hb]
    simp only [Option.bind_some]
    rw [number_of (word_append (itoa32 p) _) hp]
    simp only [Option.bind_some]
    rw [text_quoted]
    rfl
  · simp at ht
    obtain ⟨rfl, rfl, rfl⟩ := ht
    refine ⟨[], ?_⟩
    simp only [show ((3 : Int) = 1) = False from by simp, show ((3 : Int) = 2) = False from by simp, if_true, if_false, joinW]
    rw [command_at (word_append (a := sErase) (by decide) _)]
    unfold commandOf
    rw [if_neg (by decide), if_neg (by decide), if_pos rfl, block_of (word_append (show32 b) _) hb]
    simp only [Option.bind_some]
    rw [number_of (word_append (itoa32 p) _) hp]
    simp only [Option.bind_some]
    rw [number_of (word_self (itoa32 n)) hn]
    rfl
  · simp at ht
    obtain ⟨rfl, rfl, rfl, rfl⟩ := ht
    refine ⟨[], ?_⟩
    simp only [show ((4 : Int) = 1) = False from by simp, show ((4 : Int) = 2) = False from by simp, show ((4 : Int) = 3) = False from by simp, if_true, if_false, joinW]
    rw [command_at (word_append (a := sSplit) (by decide) _)]
    unfold commandOf
    rw [if_neg (by decide), if_neg (by decide), if_neg (by decide), if_pos rfl, block_of (word_append (show32 b) _) hb]
    simp only [Option.bind_some]
    rw [number_of (word_self (itoa32 p)) hp]
    rfl
  · simp at ht
    obtain ⟨rfl, rfl, rfl, rfl, rfl⟩ := ht
    exact ⟨_, plainCase sJoin 5 false (by decide) (by decide) (by decide) (by decide) (by decide) (by decide) (by decide) (by decide) (by decide) (by decide)⟩
  · simp at ht
    obtain ⟨rfl, rfl, rfl, rfl, rfl⟩ := ht
    exact ⟨_, plainCase sIndent 6 false (by decide) (by decide) (by decide) (by decide) (by decide) (by decide) (by decide) (by decide) (by decide) (by decide)⟩
  · simp at ht
    obtain ⟨rfl, rfl, rfl, rfl, rfl⟩ := ht
    exact ⟨_, plainCase sOutdent 7 false (by decide) (by decide) (by decide) (by decide) (by decide) (by decide) (by decide) (by decide) (by decide) (by decide)⟩
  · simp at ht
    obtain ⟨rfl, rfl, rfl, rfl, rfl⟩ := ht
    exact ⟨_, plainCase sUp 8 false (by decide) (by decide) (by decide) (by decide) (by decide) (by decide) (by decide) (by decide) (by decide) (by decide)⟩
  · simp at ht
    obtain ⟨rfl, rfl, rfl, rfl, rfl⟩ := ht
    exact ⟨_, plainCase sDown 9 false (by decide) (by decide) (by decide) (by decide) (by decide) (by decide) (by decide) (by decide) (by decide) (by decide)⟩
  · simp at ht
    obtain ⟨rfl, rfl, rfl, rfl, rfl⟩ := ht
    exact ⟨_, plainCase sTrashC 10 false (by decide) (by decide) (by decide) (by decide) (by decide) (by decide) (by decide) (by decide) (by decide) (by decide)⟩
  · simp at ht
    obtain ⟨rfl, rfl, rfl, rfl, rfl⟩ := ht
    exact ⟨_, plainCase sRestore 11 false (by decide) (by decide) (by decide) (by decide) (by decide) (by decide) (by decide) (by decide) (by decide) (by decide)⟩
  · simp at ht
    obtain ⟨rfl, rfl, rfl, rfl⟩ := ht
    cases f
    · exact ⟨_, plainCase sUnfold 12 false (by decide) (by decide) (by decide) (by decide) (by decide) (by decide) (by decide) (by decide) (by decide) (by decide)⟩
    · exact ⟨_, plainCase sFold 12 true (by decide) (by decide) (by decide) (by decide) (by decide) (by decide) (by decide) (by decide) (by decide) (by decide)⟩
  · simp at ht
    obtain ⟨rfl, rfl, rfl⟩ := ht
    refine ⟨[], ?_⟩
    simp only [show ((13 : Int) = 1) = False from by simp, show ((13 : Int) = 2) = False from by simp, show ((13 : Int) = 3) = False from by simp, show ((13 : Int) = 4) = False from by simp, if_true, if_false, joinW]
    rw [command_at (word_append (a := sMove) (by decide) _)]
    unfold commandOf
    rw [if_neg (by decide), if_neg (by decide), if_neg (by decide), if_neg (by decide), if_pos rfl, scIn_of f (word_append (where32 f) _)]
    simp only [Option.bind_some]
    rw [block_of (word_append (show32 b) _) hb]
    simp only [Option.bind_some]
    rw [block_of (word_self (show32 o)) ho]
    rfl
  · simp at ht
    obtain ⟨rfl, rfl, rfl⟩ := ht
    refine ⟨[], ?_⟩
    simp only [show ((14 : Int) = 1) = False from by simp, show ((14 : Int) = 2) = False from by simp, show ((14 : Int) = 3) = False from by simp, show ((14 : Int) = 4) = False from by simp, show ((14 : Int) = 13) = False from by simp, if_true, if_false, joinW]
    rw [command_at (word_append (a := sPlace) (by decide) _)]
    unfold commandOf
    rw [if_neg (by decide), if_neg (by decide), if_neg (by decide), if_neg (by decide), if_neg (by decide), if_pos rfl, block_of (word_append (show32 b) _) hb]
    simp only [Option.bind_some]
    rw [block_of (word_append (show32 o) _) ho]
    simp only [Option.bind_some]
    rw [text_quoted]
    rfl

end Off
