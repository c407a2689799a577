/- The document's answer for the layer script, as plain functions, and why it is the same. No program in sight. -/
import Derived.Test.YtkpenijilnagjaaGreatDoorScrEv
namespace Off
open Go

/-- an int's sum or product as Go keeps it -/
def w64 (n : Int) : Int := (n + 9223372036854775808) % 18446744073709551616 - 9223372036854775808

theorem w64_of {n : Int} (h : I64 n) : w64 n = n := by unfold w64; obtain ⟨h0, h1⟩ := h; omega
theorem w64_in (n : Int) : I64 (w64 n) := by unfold w64 I64; omega

/-! the number of a word -/
def isDig (b : UInt8) : Bool := decide (48 ≤ b.toNat) && decide (b.toNat ≤ 57)
def valStep (n : Int) (b : UInt8) : Int := if isDig b then w64 (w64 (n * 10) + ((b.toNat : Int) - 48)) else n
def valLoop (l : Bs) : Int := l.foldl valStep 0
def value (l : Bs) : Int := if l.head? = some 45 then w64 (-(valLoop l)) else valLoop l

/-! a name -/
def rdStep (s : Int × Int × Bool) (b : UInt8) : Int × Int × Bool :=
  if b.toNat = 46 then (s.1, s.2.1, true)
  else if isDig b && s.2.2 then (s.1, s.2.1 * 10 + ((b.toNat : Int) - 48), s.2.2)
  else if isDig b then (s.1 * 10 + ((b.toNat : Int) - 48), s.2.1, s.2.2)
  else s
def rdLoop (l : Bs) : Int × Int × Bool := (l.take 12).foldl rdStep (0, 0, false)
def rdId (l : Bs) : Bid := ⟨(rdLoop l).1, (rdLoop l).2.1⟩
def refRead (l : Bs) : Bid :=
  if l = sRoot then .z else if l = sTrash then .t
  else if rightOp (rdId l) = true ∧ showId (rdId l) = l then rdId l else .z

/-! words -/
def wordsLoop (done : List Bs) (cur : Bs) (q : Bool) : Bs → List Bs
  | [] => done ++ [cur]
  | b :: l =>
    if b.toNat = 32 ∧ (if b.toNat = 34 then !q else q) = false then wordsLoop (done ++ [cur]) [] (if b.toNat = 34 then !q else q) l
    else wordsLoop done (cur ++ [b]) (if b.toNat = 34 then !q else q) l
def words (l : Bs) : List Bs := wordsLoop [] [] false l

/-! a text -/
def hexI (c : UInt8) : Option Nat := (hexs.idxOf? c)
def hexStep (n : Nat) (c : UInt8) : Nat := match hexI c with | some d => n * 16 + d | none => n
def unplain (acc : Bs) : Bs → Bs
  | [] => acc
  | [_] => acc
  | [c, _] => acc ++ [c]
  | c :: a :: b :: r => if c.toNat ≠ 92 then unplain (acc ++ [c]) (a :: b :: r) else unplain (acc ++ [UInt8.ofNat (hexStep (hexStep 0 a) b)]) r
def refPlain (l : Bs) : Bs := unplain [] l.tail

/-! guesses -/
def gw (w : List Bs) (i : Nat) : Bs := w.getD i []

/-- the first kind from CJoin to CRestore of that name -/
def kindOf (w : Bs) : Option Int :=
  if w = sJoin then some 5 else if w = sIndent then some 6 else if w = sOutdent then some 7 else if w = sUp then some 8
  else if w = sDown then some 9 else if w = sTrashC then some 10 else if w = sRestore then some 11 else none

def askW (w : List Bs) : Cmd :=
  let f := decide (gw w 1 = sIn)
  let b := refRead (gw w 1)
  let d := refRead (gw w 2)
  let o := refRead (gw w 3)
  if gw w 0 = sNew then ⟨1, d, 0, 0, refPlain (gw w 3), f, .z⟩
  else if gw w 0 = sMove then ⟨13, d, 0, 0, [], f, o⟩
  else if gw w 0 = sType then ⟨2, b, value (gw w 2), 0, refPlain (gw w 3), false, .z⟩
  else if gw w 0 = sErase then ⟨3, b, value (gw w 2), value (gw w 3), [], false, .z⟩
  else if gw w 0 = sPlace then ⟨14, b, 0, 0, refPlain (gw w 3), false, d⟩
  else if gw w 0 = sSplit then ⟨4, b, value (gw w 2), 0, [], false, .z⟩
  else if gw w 0 = sFold then ⟨12, b, 0, 0, [], true, .z⟩
  else if gw w 0 = sUnfold then ⟨12, b, 0, 0, [], false, .z⟩
  else match kindOf (gw w 0) with
    | some k => ⟨k, b, 0, 0, [], false, .z⟩
    | none => ⟨0, .z, 0, 0, [], f, .z⟩

def guess (w : List Bs) : Ev :=
  let n := value (gw w 1)
  if gw w 0 = sSync then ⟨2, n, 0, 0, false, .z⟩
  else if gw w 0 = sCompact then ⟨8, n, 0, 0, false, .z⟩
  else if gw w 0 = sStart then ⟨7, n, 0, 0, false, .z⟩
  else if gw w 0 = sDrop then ⟨5, n, 0, 0, false, .z⟩
  else if gw w 0 = sCrash then ⟨6, n, 0, value (gw w 2), false, .z⟩
  else if gw w 0 = sTell then ⟨3, n, value (gw w 2), 0, false, .z⟩
  else if gw w 0 = sDeliver then ⟨4, n, 0, 0, false, .z⟩
  else if gw w 0 = sCopy then ⟨4, n, 0, 0, true, .z⟩
  else if gw w 0 = sDo then ⟨1, n, 0, 0, false, askW (w.drop 2)⟩
  else ⟨0, n, 0, 0, false, .z⟩

def refParseLine (l : Bs) : Option Ev := if evOk (guess (words l)) = true ∧ evLine (guess (words l)) = l then some (guess (words l)) else none

/-! the laws -/
theorem valLoop_snoc (l : Bs) (b : UInt8) : valLoop (l ++ [b]) = valStep (valLoop l) b := by simp [valLoop]

theorem isDig_dec {u : Nat} (h : u < 10) : isDig (UInt8.ofNat (48 + u)) = true ∧ ((UInt8.ofNat (48 + u)).toNat : Int) - 48 = u := by
  have e : (UInt8.ofNat (48 + u)).toNat = 48 + u := by simp; omega
  unfold isDig
  rw [e]
  simp; omega

theorem w64_mod (a : Int) : ∃ k : Int, w64 a = a + k * 18446744073709551616 :=
  ⟨-((a + 9223372036854775808) / 18446744073709551616), by unfold w64; omega⟩
theorem w64_eq {a b : Int} (k : Int) (h : a = b + k * 18446744073709551616) : w64 a = w64 b := by
  unfold w64; omega
theorem w64_small (a : Int) (h0 : 0 ≤ a) (h1 : a < 10) : a = w64 a := by unfold w64; omega
theorem w64_step (q r : Int) : w64 (w64 (w64 q * 10) + r) = w64 (q * 10 + r) := by
  obtain ⟨k, hk⟩ := w64_mod q
  obtain ⟨m, hm⟩ := w64_mod (w64 q * 10)
  exact w64_eq (m + k * 10) (by rw [hm, hk]; omega)
theorem valLoop_dec (u : Nat) : valLoop (Lib.decDigits u) = w64 u := by
  induction u using Nat.strongRecOn with
  | _ u ih =>
    by_cases h : u < 10
    · rw [Lib.decDigits, dif_pos h]
      obtain ⟨h1, h2⟩ := isDig_dec h
      have e : valLoop [UInt8.ofNat (48 + u)] = valStep 0 (UInt8.ofNat (48 + u)) := rfl
      rw [e]
      unfold valStep
      rw [h1, h2, if_pos rfl, show w64 (0 * 10) = 0 from rfl, Int.zero_add]
    · rw [Lib.decDigits, dif_neg h, valLoop_snoc, ih _ (by omega)]
      obtain ⟨h1, h2⟩ := isDig_dec (u := u % 10) (by omega)
      unfold valStep
      rw [h1, h2, if_pos rfl, w64_step]
      congr 1
      omega

theorem valLoop_minus (l : Bs) : valLoop (45 :: l) = valLoop l := by
  simp only [valLoop, List.foldl_cons]
  rw [show valStep 0 45 = 0 from by decide]

theorem value_itoa {n : Int} (h : I64 n) : value (Lib.itoa n) = n := by
  obtain ⟨h0, h1⟩ := h
  unfold Lib.itoa
  by_cases hn : n < 0
  · rw [if_pos hn]
    unfold value
    rw [if_pos (by rfl), valLoop_minus, valLoop_dec]
    unfold w64; omega
  · rw [if_neg hn]
    unfold value
    have hne := dec_ne_nil n.toNat
    have hb := dec_bytes n.toNat
    have : (Lib.decDigits n.toNat).head? ≠ some 45 := by
      intro e
      cases hd : Lib.decDigits n.toNat with
      | nil => exact hne hd
      | cons c r =>
        rw [hd] at hb e
        simp only [List.head?_cons, Option.some.injEq] at e
        have := (hb c (List.mem_cons_self ..)).1
        rw [e] at this
        exact absurd this (by decide)
    rw [if_neg this, valLoop_dec]
    unfold w64; omega

theorem rdFold_N (u : Nat) : ∀ (r n : Int), (Lib.decDigits u).foldl rdStep (r, n, true) = (r, n * (10 ^ (Lib.decDigits u).length : Nat) + u, true) := by
  induction u using Nat.strongRecOn with
  | _ u ih =>
    intro r n
    have dot : ∀ v < 10, (UInt8.ofNat (48 + v)).toNat ≠ 46 := by intro v hv; simp; omega
    by_cases h : u < 10
    · rw [Lib.decDigits, dif_pos h]
      obtain ⟨h1, h2⟩ := isDig_dec h
      simp only [List.foldl_cons, List.foldl_nil, rdStep, h1, h2, if_neg (dot u h), Bool.and_self, if_true, List.length_cons, List.length_nil]
      simp
    · rw [Lib.decDigits, dif_neg h, List.foldl_append, ih _ (by omega)]
      obtain ⟨h1, h2⟩ := isDig_dec (u := u % 10) (by omega)
      simp only [List.foldl_cons, List.foldl_nil, rdStep, h1, h2, if_neg (dot (u % 10) (by omega)), Bool.and_self, if_true, List.length_append, List.length_cons, List.length_nil]
      rw [Nat.zero_add, Nat.pow_succ]
      refine Prod.ext rfl (Prod.ext ?_ rfl)
      simp only
      generalize (10 ^ (Lib.decDigits (u / 10)).length : Nat) = p
      rw [Int.add_mul, Int.mul_assoc, show ((p * 10 : Nat) : Int) = (p : Int) * 10 from by omega]
      generalize n * ((p : Int) * 10) = z
      omega

theorem rdFold_R (u : Nat) : ∀ (r n : Int), (Lib.decDigits u).foldl rdStep (r, n, false) = (r * (10 ^ (Lib.decDigits u).length : Nat) + u, n, false) := by
  induction u using Nat.strongRecOn with
  | _ u ih =>
    intro r n
    have dot : ∀ v < 10, (UInt8.ofNat (48 + v)).toNat ≠ 46 := by intro v hv; simp; omega
    by_cases h : u < 10
    · rw [Lib.decDigits, dif_pos h]
      obtain ⟨h1, h2⟩ := isDig_dec h
      simp only [List.foldl_cons, List.foldl_nil, rdStep, h1, h2, if_neg (dot u h), Bool.and_false, Bool.false_eq_true, if_false, if_true, List.length_cons, List.length_nil]
      simp
    · rw [Lib.decDigits, dif_neg h, List.foldl_append, ih _ (by omega)]
      obtain ⟨h1, h2⟩ := isDig_dec (u := u % 10) (by omega)
      simp only [List.foldl_cons, List.foldl_nil, rdStep, h1, h2, if_neg (dot (u % 10) (by omega)), Bool.and_false, Bool.false_eq_true, if_false, if_true, List.length_append, List.length_cons, List.length_nil]
      rw [Nat.zero_add, Nat.pow_succ]
      refine Prod.ext ?_ rfl
      simp only
      generalize (10 ^ (Lib.decDigits (u / 10)).length : Nat) = p
      rw [Int.add_mul, Int.mul_assoc, show ((p * 10 : Nat) : Int) = (p : Int) * 10 from by omega]
      generalize r * ((p : Int) * 10) = z
      omega

theorem nDigits_le {u k : Nat} (h : u < 10 ^ (k + 1)) : Lib.nDigits u ≤ k + 1 := by
  induction k generalizing u with
  | zero => rw [Lib.nDigits_small (by simpa using h)]; omega
  | succ k ih =>
    by_cases h10 : u < 10
    · rw [Lib.nDigits_small h10]; omega
    · rw [Lib.nDigits_big h10]
      have := ih (u := u / 10) (by rw [Nat.pow_succ] at h; omega)
      omega

theorem rdId_show {i : Bid} (h : rightOp i = true) : rdId (Lib.itoa i.R ++ 46 :: Lib.itoa i.N) = i := by
  obtain ⟨h0, h1, h2, h3⟩ := rightOp_iff.1 h
  obtain ⟨R, N⟩ := i
  simp only at h0 h1 h2 h3
  unfold rdId rdLoop
  simp only
  have eR : Lib.itoa R = Lib.decDigits R.toNat := if_neg (by omega)
  have eN : Lib.itoa N = Lib.decDigits N.toNat := if_neg (by omega)
  have lR : (Lib.decDigits R.toNat).length ≤ 2 := by rw [Lib.decDigits_length]; exact nDigits_le (k := 1) (by omega)
  have lN : (Lib.decDigits N.toNat).length ≤ 7 := by rw [Lib.decDigits_length]; exact nDigits_le (k := 6) (by omega)
  rw [eR, eN, List.take_of_length_le (by simp; omega), List.foldl_append, rdFold_R, List.foldl_cons]
  rw [show rdStep (0 * ((10 ^ (Lib.decDigits R.toNat).length : Nat) : Int) + (R.toNat : Int), 0, false) 46 = ((R.toNat : Int), 0, true) from by simp [rdStep]]
  rw [rdFold_N]
  simp
  omega

theorem refRead_show {i : Bid} (h : rightBlock i = true) : refRead (showId i) = i := by
  unfold rightBlock at h
  simp only [Bool.or_eq_true, decide_eq_true_eq] at h
  by_cases e1 : i = .z
  · subst e1; unfold showId refRead; rw [if_pos rfl, if_pos rfl]
  · by_cases e2 : i = .t
    · subst e2
      have hs : showId .t = sTrash := by unfold showId; rw [if_neg (by decide), if_pos rfl]
      unfold refRead
      rw [hs, if_neg (by decide), if_pos rfl]
    · have h3 : rightOp i = true := by
        rcases h with (h | h) | h
        · exact absurd h e1
        · exact absurd h e2
        · exact h
      have hs : showId i = Lib.itoa i.R ++ 46 :: Lib.itoa i.N := by
        unfold showId
        rw [if_neg e1, if_neg e2, if_neg (by rw [h3]; decide)]
      unfold refRead
      rw [hs, if_neg (itoa_dot_ne _ _ _ (by decide)), if_neg (itoa_dot_ne _ _ _ (by decide)), rdId_show h3, if_pos ⟨h3, hs⟩]

/-! words -/
/-- a word that the loop takes whole -/
def Whole (a : Bs) : Prop := ∀ done cur r, wordsLoop done cur false (a ++ r) = wordsLoop done (cur ++ a) false r

theorem whole_bare : ∀ {a : Bs}, (32 : UInt8) ∉ a → (34 : UInt8) ∉ a → Whole a
  | [], _, _ => fun done cur r => by simp
  | b :: a, h1, h2 => fun done cur r => by
    simp only [List.mem_cons, not_or] at h1 h2
    have n1 : b.toNat ≠ 32 := fun e => h1.1 (UInt8.toNat_inj.1 (by rw [e]; rfl))
    have n2 : b.toNat ≠ 34 := fun e => h2.1 (UInt8.toNat_inj.1 (by rw [e]; rfl))
    rw [List.cons_append, wordsLoop, if_neg (fun h => n1 h.1), if_neg n2, whole_bare h1.2 h2.2]
    simp

theorem in_quotes : ∀ {a : Bs}, (34 : UInt8) ∉ a → ∀ done cur r, wordsLoop done cur true (a ++ r) = wordsLoop done (cur ++ a) true r
  | [], _ => fun done cur r => by simp
  | b :: a, h2 => fun done cur r => by
    simp only [List.mem_cons, not_or] at h2
    have n2 : b.toNat ≠ 34 := fun e => h2.1 (UInt8.toNat_inj.1 (by rw [e]; rfl))
    rw [List.cons_append, wordsLoop, if_neg n2, if_neg (fun h => by simp at h), in_quotes h2.2]
    simp

theorem quoteByte_not (c : UInt8) : (34 : UInt8) ∉ quoteByte c := fin_byte (P := fun c => (34 : UInt8) ∉ quoteByte c) (by decide +kernel) c

theorem whole_quoted (t : Bs) : Whole (quoted t) := by
  intro done cur r
  unfold quoted
  have hb : (34 : UInt8) ∉ t.flatMap quoteByte := by
    intro h
    obtain ⟨c, _, hc⟩ := List.mem_flatMap.1 h
    exact quoteByte_not c hc
  rw [List.cons_append, wordsLoop, if_neg (by decide), if_pos (by decide), List.append_assoc, Bool.not_false, in_quotes hb, List.cons_append, List.nil_append,
    wordsLoop, if_neg (by decide), if_pos (by decide), Bool.not_true]
  simp

theorem words_join : ∀ (ws : List Bs) (done : List Bs), ws ≠ [] → (∀ a ∈ ws, Whole a) → wordsLoop done [] false (joinW ws) = done ++ ws
  | [], _, h, _ => absurd rfl h
  | [a], done, _, h => by
    have := h a (List.mem_cons_self ..) done [] []
    simp only [List.append_nil, List.nil_append] at this
    rw [joinW, this, wordsLoop]
  | a :: b :: r, done, _, h => by
    rw [joinW_cons, h a (List.mem_cons_self ..), wordsLoop, if_pos (by decide), if_neg (by decide),
      words_join (b :: r) _ (by simp) (fun x hx => h x (List.mem_cons_of_mem _ hx))]
    simp

/-! texts -/
theorem hex_step_back (c : UInt8) : UInt8.ofNat (hexStep (hexStep 0 (hexD (c >>> 4))) (hexD (c &&& 15))) = c :=
  fin_byte (P := fun c => UInt8.ofNat (hexStep (hexStep 0 (hexD (c >>> 4))) (hexD (c &&& 15))) = c) (by decide +kernel) c

theorem unplain_bare (acc : Bs) (c : UInt8) (h : c ≠ 92) (r : Bs) (hr : r ≠ []) : unplain acc (c :: r) = unplain (acc ++ [c]) r := by
  have n : c.toNat ≠ 92 := fun e => h (UInt8.toNat_inj.1 (by rw [e]; rfl))
  match r, hr with
  | [x], _ => simp [unplain]
  | a :: b :: r, _ => rw [unplain, if_pos n]

theorem unplain_quoted : ∀ (t acc : Bs), unplain acc (t.flatMap quoteByte ++ [34]) = acc ++ t
  | [], acc => by simp [unplain]
  | c :: t, acc => by
    have ih := unplain_quoted t
    rw [List.flatMap_cons, List.append_assoc]
    by_cases hp : plainByte c = true
    · rw [show quoteByte c = [c] from if_pos hp]
      unfold plainByte at hp
      simp only [Bool.and_eq_true, decide_eq_true_eq] at hp
      rw [List.cons_append, List.nil_append, unplain_bare _ _ hp.2 _ (by simp), ih]
      simp
    · rw [show quoteByte c = _ from if_neg hp]
      simp only [List.cons_append, List.nil_append]
      rw [unplain, if_neg (by decide), hex_step_back, ih]
      simp

theorem refPlain_quoted (t : Bs) : refPlain (quoted t) = t := by
  unfold refPlain quoted
  rw [List.tail_cons, unplain_quoted]
  rfl

/-! the guess is right where a line is an event's -/
theorem w_itoa (n : Int) : Whole (Lib.itoa n) := whole_bare (itoa32 n) (itoa_not (by decide) (by decide))
theorem w_show (i : Bid) : Whole (showId i) := whole_bare (show32 i) (showId_not i (.inr (.inl rfl)))
theorem w_where (f : Bool) : Whole (whereW f) := by cases f <;> exact whole_bare (by decide) (by decide)
theorem where_in (f : Bool) : decide (whereW f = sIn) = f := by cases f <;> decide

theorem ask_right {c : Cmd} (hin : CmdIn c) (ht : cmdTold c = c) (h1 : 1 ≤ c.kind) (h14 : c.kind ≤ 14)
    (hb : rightBlock c.block = true) (ho : rightBlock c.other = true) : askW (cmdWords c) = c ∧ ∀ a ∈ cmdWords c, Whole a := by
  obtain ⟨kind, b, p, n, t, f, o⟩ := c
  simp only at h1 h14 hb ho
  have hp := hin.pos
  have hn := hin.n
  simp only at hp hn
  unfold cmdTold at ht
  simp only at ht
  unfold cmdWords
  simp only
  have hk : kind = 1 ∨ kind = 2 ∨ kind = 3 ∨ kind = 4 ∨ kind = 5 ∨ kind = 6 ∨ kind = 7 ∨ kind = 8 ∨ kind = 9 ∨ kind = 10 ∨ kind = 11 ∨ kind = 12 ∨ kind = 13 ∨ kind = 14 := by omega
  have plainCase : ∀ (w : Bs) (k : Int) (f' : Bool), Whole w → (∀ r, askW (w :: showId b :: r) = ⟨k, refRead (showId b), 0, 0, [], f', .z⟩) →
      askW [w, showId b] = ⟨k, b, 0, 0, [], f', .z⟩ ∧ ∀ a ∈ [w, showId b], Whole a := by
    intro w k f' h h'
    refine ⟨by rw [h', refRead_show hb], ?_⟩
    intro a ha
    simp only [List.mem_cons, List.not_mem_nil, or_false] at ha
    rcases ha with rfl | rfl
    · exact h
    · exact w_show b
  have wb : ∀ {a : Bs}, (32 : UInt8) ∉ a → (34 : UInt8) ∉ a → Whole a := fun h h' => whole_bare h h'
  rcases hk with rfl | rfl | rfl | rfl | rfl | rfl | rfl | rfl | rfl | rfl | rfl | rfl | rfl | rfl
  · simp at ht
    obtain ⟨rfl, rfl, rfl⟩ := ht
    refine ⟨?_, ?_⟩
    · show (⟨1, refRead (showId b), 0, 0, refPlain (quoted t), decide (whereW f = sIn), .z⟩ : Cmd) = _
      rw [refRead_show hb, refPlain_quoted, where_in]
    · intro a ha
      simp only [if_true, List.mem_cons, List.not_mem_nil, or_false] at ha
      rcases ha with rfl | rfl | rfl | rfl
      · exact wb (by decide) (by decide)
      · exact w_where f
      · exact w_show b
      · exact whole_quoted t
  · simp at ht
    obtain ⟨rfl, rfl, rfl⟩ := ht
    refine ⟨?_, ?_⟩
    · show (⟨2, refRead (showId b), value (Lib.itoa p), 0, refPlain (quoted t), false, .z⟩ : Cmd) = _
      rw [refRead_show hb, refPlain_quoted, value_itoa hp]
    · intro a ha
      simp [-Int.reduceEq] at ha
      simp at ha
      rcases ha with rfl | rfl | rfl | rfl
      · exact wb (by decide) (by decide)
      · exact w_show b
      · exact w_itoa p
      · exact whole_quoted t
  · simp at ht
    obtain ⟨rfl, rfl, rfl⟩ := ht
    refine ⟨?_, ?_⟩
    · show (⟨3, refRead (showId b), value (Lib.itoa p), value (Lib.itoa n), [], false, .z⟩ : Cmd) = _
      rw [refRead_show hb, value_itoa hp, value_itoa hn]
    · intro a ha
      simp at ha
      rcases ha with rfl | rfl | rfl | rfl
      · exact wb (by decide) (by decide)
      · exact w_show b
      · exact w_itoa p
      · exact w_itoa n
  · simp at ht
    obtain ⟨rfl, rfl, rfl, rfl⟩ := ht
    refine ⟨?_, ?_⟩
    · show (⟨4, refRead (showId b), value (Lib.itoa p), 0, [], false, .z⟩ : Cmd) = _
      rw [refRead_show hb, value_itoa hp]
    · intro a ha
      simp at ha
      rcases ha with rfl | rfl | rfl
      · exact wb (by decide) (by decide)
      · exact w_show b
      · exact w_itoa p
  · simp at ht
    obtain ⟨rfl, rfl, rfl, rfl, rfl⟩ := ht
    exact plainCase sJoin 5 false (wb (by decide) (by decide)) (fun r => rfl)
  · simp at ht
    obtain ⟨rfl, rfl, rfl, rfl, rfl⟩ := ht
    exact plainCase sIndent 6 false (wb (by decide) (by decide)) (fun r => rfl)
  · simp at ht
    obtain ⟨rfl, rfl, rfl, rfl, rfl⟩ := ht
    exact plainCase sOutdent 7 false (wb (by decide) (by decide)) (fun r => rfl)
  · simp at ht
    obtain ⟨rfl, rfl, rfl, rfl, rfl⟩ := ht
    exact plainCase sUp 8 false (wb (by decide) (by decide)) (fun r => rfl)
  · simp at ht
    obtain ⟨rfl, rfl, rfl, rfl, rfl⟩ := ht
    exact plainCase sDown 9 false (wb (by decide) (by decide)) (fun r => rfl)
  · simp at ht
    obtain ⟨rfl, rfl, rfl, rfl, rfl⟩ := ht
    exact plainCase sTrashC 10 false (wb (by decide) (by decide)) (fun r => rfl)
  · simp at ht
    obtain ⟨rfl, rfl, rfl, rfl, rfl⟩ := ht
    exact plainCase sRestore 11 false (wb (by decide) (by decide)) (fun r => rfl)
  · simp at ht
    obtain ⟨rfl, rfl, rfl, rfl⟩ := ht
    cases f
    · exact plainCase sUnfold 12 false (wb (by decide) (by decide)) (fun r => rfl)
    · exact plainCase sFold 12 true (wb (by decide) (by decide)) (fun r => rfl)
  · simp at ht
    obtain ⟨rfl, rfl, rfl⟩ := ht
    refine ⟨?_, ?_⟩
    · show (⟨13, refRead (showId b), 0, 0, [], decide (whereW f = sIn), refRead (showId o)⟩ : Cmd) = _
      rw [refRead_show hb, refRead_show ho, where_in]
    · intro a ha
      simp at ha
      rcases ha with rfl | rfl | rfl | rfl
      · exact wb (by decide) (by decide)
      · exact w_where f
      · exact w_show b
      · exact w_show o
  · simp at ht
    obtain ⟨rfl, rfl, rfl⟩ := ht
    refine ⟨?_, ?_⟩
    · show (⟨14, refRead (showId b), 0, 0, refPlain (quoted t), false, refRead (showId o)⟩ : Cmd) = _
      rw [refRead_show hb, refRead_show ho, refPlain_quoted]
    · intro a ha
      simp at ha
      rcases ha with rfl | rfl | rfl | rfl
      · exact wb (by decide) (by decide)
      · exact w_show b
      · exact w_show o
      · exact whole_quoted t

theorem guess_right {e : Ev} (hin : EvIn e) (hok : evOk e = true) : guess (words (evLine e)) = e := by
  obtain ⟨kind, n, to, keep, f, c⟩ := e
  have hn := hin.n
  have hto := hin.to
  have hk := hin.keep
  have hc := hin.cmd
  simp only at hn hto hk hc
  unfold evOk at hok
  simp only [Bool.and_eq_true, decide_eq_true_eq] at hok
  obtain ⟨⟨ht, hw⟩, hr⟩ := hok
  unfold evTold at ht
  simp only at ht
  unfold evWords at hw
  unfold evLine evWords words
  simp only at hw ⊢
  have wb : ∀ {a : Bs}, (32 : UInt8) ∉ a → (34 : UInt8) ∉ a → Whole a := fun h h' => whole_bare h h'
  have ws : ∀ (w : Bs) (r : List Bs), Whole w → (∀ a ∈ r, Whole a) → wordsLoop [] [] false (joinW (w :: Lib.itoa n :: r)) = w :: Lib.itoa n :: r := by
    intro w r h1 h2
    have := words_join (w :: Lib.itoa n :: r) [] (by simp) (fun a ha => by
      simp only [List.mem_cons] at ha
      rcases ha with rfl | rfl | ha
      · exact h1
      · exact w_itoa n
      · exact h2 a ha)
    simpa using this
  by_cases h1 : kind = 1
  · subst h1
    simp only [if_true, Ev.mk.injEq, true_and] at ht
    obtain ⟨rfl, rfl, rfl, ht⟩ := ht
    unfold rightEv at hr
    simp only [ne_eq, not_true_eq_false, decide_false, Bool.false_or, Bool.and_eq_true, decide_eq_true_eq] at hr
    obtain ⟨⟨⟨g1, g2⟩, g3⟩, g4⟩ := hr
    obtain ⟨ha, hwh⟩ := ask_right hc ht g1 g2 g3 g4
    simp only [if_true, List.cons_append, List.nil_append]
    rw [ws sDo _ (wb (by decide) (by decide)) hwh]
    show (⟨1, value (Lib.itoa n), 0, 0, false, askW (cmdWords c)⟩ : Ev) = _
    rw [value_itoa hn, ha]
  · rw [if_neg h1] at ht hw ⊢
    by_cases h6 : kind = 6
    · subst h6
      simp only [if_true, Ev.mk.injEq, true_and] at ht
      obtain ⟨rfl, rfl, rfl⟩ := ht
      rw [if_neg (by decide), if_neg (by decide), if_neg (by decide), if_neg (by decide), if_pos rfl,
        ws sCrash [Lib.itoa keep] (wb (by decide) (by decide)) (by intro a ha; simp at ha; rw [ha]; exact w_itoa keep)]
      show (⟨6, value (Lib.itoa n), 0, value (Lib.itoa keep), false, .z⟩ : Ev) = _
      rw [value_itoa hn, value_itoa hk]
    · rw [if_neg h6] at ht
      by_cases h3 : kind = 3
      · subst h3
        simp only [if_true, Ev.mk.injEq, true_and] at ht
        obtain ⟨rfl, rfl, rfl⟩ := ht
        rw [if_neg (by decide), if_neg (by decide), if_neg (by decide), if_neg (by decide), if_neg (by decide), if_pos rfl,
          ws sTell [Lib.itoa to] (wb (by decide) (by decide)) (by intro a ha; simp at ha; rw [ha]; exact w_itoa to)]
        show (⟨3, value (Lib.itoa n), value (Lib.itoa to), 0, false, .z⟩ : Ev) = _
        rw [value_itoa hn, value_itoa hto]
      · rw [if_neg h3] at ht
        have two : ∀ (w : Bs) (k : Int) (g : Bool), Whole w → (∀ r, guess (w :: Lib.itoa n :: r) = ⟨k, value (Lib.itoa n), 0, 0, g, .z⟩) →
            guess (wordsLoop [] [] false (joinW [w, Lib.itoa n])) = ⟨k, n, 0, 0, g, .z⟩ := by
          intro w k g hw h
          rw [ws w [] hw (by intro a ha; cases ha), h, value_itoa hn]
        by_cases h4 : kind = 4
        · subst h4
          simp only [if_true, Ev.mk.injEq, true_and] at ht
          obtain ⟨rfl, rfl, rfl⟩ := ht
          rw [if_neg (by decide), if_neg (by decide), if_neg (by decide), if_neg (by decide), if_neg (by decide), if_neg (by decide), if_pos rfl]
          cases f
          · exact two sDeliver 4 false (wb (by decide) (by decide)) (fun r => rfl)
          · exact two sCopy 4 true (wb (by decide) (by decide)) (fun r => rfl)
        · rw [if_neg h4] at ht
          simp only [Ev.mk.injEq, true_and] at ht
          obtain ⟨rfl, rfl, rfl, rfl⟩ := ht
          by_cases h2 : kind = 2
          · subst h2; rw [if_pos rfl]; exact two sSync 2 false (wb (by decide) (by decide)) (fun r => rfl)
          · rw [if_neg h2] at hw ⊢
            by_cases h8 : kind = 8
            · subst h8; rw [if_pos rfl]; exact two sCompact 8 false (wb (by decide) (by decide)) (fun r => rfl)
            · rw [if_neg h8] at hw ⊢
              by_cases h7 : kind = 7
              · subst h7; rw [if_pos rfl]; exact two sStart 7 false (wb (by decide) (by decide)) (fun r => rfl)
              · rw [if_neg h7] at hw ⊢
                by_cases h5 : kind = 5
                · subst h5; rw [if_pos rfl]; exact two sDrop 5 false (wb (by decide) (by decide)) (fun r => rfl)
                · rw [if_neg h5, if_neg h6, if_neg h3, if_neg h4] at hw
                  exact absurd hw (by decide)

/-- the document's reading of a line is the program's -/
theorem refParse_eq (l : Bs) (hg : EvIn (guess (words l))) (hp : ∀ e, parseLine l = some e → EvIn e) : refParseLine l = parseLine l := by
  unfold refParseLine
  split
  · rename_i h
    rw [← h.2, parse_show hg h.1, h.2]
  · rename_i h
    cases hl : parseLine l with
    | none => rfl
    | some e =>
      obtain ⟨h1, h2⟩ := parse_some hl
      have := guess_right (hp e hl) h1
      rw [h2] at this
      rw [this] at h
      exact absurd ⟨h1, h2⟩ h

end Off
