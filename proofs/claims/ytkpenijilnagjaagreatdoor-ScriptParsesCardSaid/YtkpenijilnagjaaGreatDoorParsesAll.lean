/- offshootref25.Show: events as a text. What is plain about the document reading a line. offshootref25.Parse: the events of a text. ScriptParses: the walk. -/
import Derived.Test.YtkpenijilnagjaaGreatDoorRLine
import Derived.Test.YtkpenijilnagjaaGreatDoorEvAll
import Derived.Test.YtkpenijilnagjaaGreatDoorGuess
namespace Go.Proofs.YtkpenijilnagjaaGreatDoor
open Go.RowKit

theorem rline_yes {ev : Off.Ev} {w : World} (hE : Env w) (hF : EvFits ev) (h : Off.evOk ev = true) :
    Calls Tryz.prog 39 #[evV ev] w fun e w' => e = .returned (.tuple #[.string ⟨(Off.evLine ev).toArray⟩, .bool true]) ∧ Keeps No w w' :=
  (rline_any ev w hE hF).mono fun e w' hh => by
    obtain ⟨he, hk⟩ := hh
    rw [h, if_pos rfl] at he
    exact ⟨he, hk⟩
theorem rline_no {ev : Off.Ev} {w : World} (hE : Env w) (hF : EvFits ev) (h : Off.evOk ev = false) :
    Calls Tryz.prog 39 #[evV ev] w fun e w' => e = .returned (.tuple #[.string ⟨#[]⟩, .bool false]) ∧ Keeps No w w' :=
  (rline_any ev w hE hF).mono fun e w' hh => by
    obtain ⟨he, hk⟩ := hh
    rw [h, if_neg (by decide)] at he
    exact ⟨he, hk⟩

set_option maxRecDepth 100000 in
set_option maxHeartbeats 2000000 in
theorem refShowT_any (v : Value) (l : List Off.Ev) (w : World) (hE : Env w) (hv : EvLies v l w) (hin : ∀ e ∈ l, EvFits e) (hn : l.length ≤ 10000) :
    Calls Tryz.prog 15 #[v] w (ShowTPost w (Off.showL 0 l)) := by
  obtain ⟨a, c, rfl, ha⟩ := hv
  go_enter Tryz.func15, Tryz.ntmps15
  go_wp2
  go_loopw [4, 5] (fun s i wr => ∃ (k : Nat) (t : List UInt8), k ≤ l.length ∧ i = .int .i64 k ∧ s = .string ⟨t.toArray⟩ ∧ Hid (ShownTo l k t) ∧ t.length ≤ k * 100001001 ∧ Keeps No w wr) (fun _ i _ => l.length - (intOf i).toNat)
  case atStart => exact ⟨0, [], Nat.zero_le _, rfl, rfl, shown_start l, by simp, Keeps.refl _ _⟩
  case round =>
    obtain ⟨k, t, hk, rfl, rfl, hT, ht, kr⟩ := hrel
    by_cases hlt : k < l.length
    · obtain ⟨g, o, rfl, hg, hc⟩ := ha (fun e => by subst e; simp at hlt)
      have hf := hin l[k] (List.getElem_mem hlt)
      have hE1 := hE.no kr
      have hcell : ∀ i, i < 14 → wr.cell? ⟨g, o + k * 14 + i, none⟩ = (evCells l[k])[i]? := by
        intro i hi
        have h1 : i < (evCells l[k]).length := by rw [evCells_len]; exact hi
        rw [(kr.cell hg id), Nat.add_assoc, hc (k * 14 + i) ((evCells l[k])[i]'h1) ((flat_at l k i hlt hi).trans (List.getElem?_eq_getElem h1))]
        exact (List.getElem?_eq_getElem h1).symm
      have hlen := evLine_lt l[k] hf
      have hstep := fun h => Lib.hid (shown_step hT.out hlt h)
      have hstop := fun h => Lib.hid (shown_stop hT.out hlt h)
      have hY := fun h => rline_yes hE1 hf h
      have hN := fun h => rline_no hE1 hf h
      clear hT hc hin
      generalize l[k] = ev at hf hcell hY hN hlen hstep hstop
      obtain ⟨kd, en, eto, ek, ef, ⟨ck, ⟨R, N⟩, pp, n, tx, f, ⟨R2, N2⟩⟩⟩ := ev
      have x0 := hcell 0 (by decide); have x1 := hcell 1 (by decide); have x2 := hcell 2 (by decide); have x3 := hcell 3 (by decide); have x4 := hcell 4 (by decide); have x5 := hcell 5 (by decide); have x6 := hcell 6 (by decide)
      have x7 := hcell 7 (by decide); have x8 := hcell 8 (by decide); have x9 := hcell 9 (by decide); have x10 := hcell 10 (by decide); have x11 := hcell 11 (by decide); have x12 := hcell 12 (by decide); have x13 := hcell 13 (by decide)
      simp only [evCells, List.getElem?_cons_zero, List.getElem?_cons_succ, Nat.add_zero] at x0 x1 x2 x3 x4 x5 x6 x7 x8 x9 x10 x11 x12 x13
      clear hcell
      generalize hln : Off.evLine ⟨kd, en, eto, ek, ef, ⟨ck, ⟨R, N⟩, pp, n, tx, f, ⟨R2, N2⟩⟩⟩ = ln at *
      clear hln
      cases hok : Off.evOk ⟨kd, en, eto, ek, ef, ⟨ck, ⟨R, N⟩, pp, n, tx, f, ⟨R2, N2⟩⟩⟩ with
      | false =>
        have hN' := hN hok
        have hq := hstop hok
        clear hY hN hstep hstop hok
        go_wp2_with fail
        refine hN'.mono ?_
        rintro e w2 ⟨rfl, k2⟩
        go_wp2
        go_ret2
        exact ShowTPost.bad hq.out rfl (kr.trans k2)
      | true =>
        have hY' := hY hok
        have hq := hstep hok
        have m1 : ¬ 9223372036854775807 < ln.length + 1 := by omega
        have m2 : ¬ 9223372036854775807 < t.length + (ln.length + 1) := by omega
        have hc1 := bytes_snoc ln 10
        have hc2 := cat1 t (ln ++ [10])
        clear hY hN hstep hstop hok
        go_wp2_with fail
        refine hY'.mono ?_
        rintro e w2 ⟨rfl, k2⟩
        go_wp2
        go_roundw
        case rel => exact ⟨k + 1, t ++ (ln ++ [10]), by omega, by go_num, rfl, hq, by simp only [List.length_append, List.length_cons, List.length_nil]; omega, kr.trans k2⟩
        case measure => simp [intOf]; omega
    · obtain rfl : k = l.length := by omega
      have hq := Lib.hid (shown_end hT.out)
      clear hT
      go_wp2_with fail
      go_ret2
      exact ShowTPost.good hq.out rfl kr

end Go.Proofs.YtkpenijilnagjaaGreatDoor

namespace Go.Proofs.YtkpenijilnagjaaGreatDoor
open Go.RowKit

theorem wordsLoop_mem : ∀ (l : List UInt8) (done : List (List UInt8)) (cur : List UInt8) (q : Bool) (a : List UInt8), a ∈ Off.wordsLoop done cur q l → a ∈ done ∨ a.length ≤ cur.length + l.length
  | [], done, cur, q, a, h => by
    rw [Off.wordsLoop] at h
    rcases List.mem_append.1 h with h | h
    · exact .inl h
    · simp at h; rw [h]; exact .inr (by simp)
  | b :: l, done, cur, q, a, h => by
    rw [words_cons] at h
    generalize (if b.toNat = 34 then !q else q) = q' at h
    split at h
    · rcases wordsLoop_mem l _ _ _ a h with h | h
      · rcases List.mem_append.1 h with h | h
        · exact .inl h
        · simp at h; rw [h]; exact .inr (by simp)
      · exact .inr (by simp at h ⊢; omega)
    · rcases wordsLoop_mem l _ _ _ a h with h | h
      · exact .inl h
      · exact .inr (by simp at h ⊢; omega)
theorem words_len {s a : List UInt8} (h : a ∈ Off.words s) : a.length ≤ s.length := by
  rcases wordsLoop_mem s [] [] false a h with h | h
  · cases h
  · simpa using h
theorem wordsLoop_pos : ∀ (l : List UInt8) (done : List (List UInt8)) (cur : List UInt8) (q : Bool), 0 < (Off.wordsLoop done cur q l).length
  | [], done, cur, q => by rw [Off.wordsLoop]; simp
  | b :: l, done, cur, q => by
    rw [words_cons]
    generalize (if b.toNat = 34 then !q else q) = q'
    split
    · exact wordsLoop_pos l _ _ _
    · exact wordsLoop_pos l _ _ _
theorem words_pos (s : List UInt8) : 0 < (Off.words s).length := wordsLoop_pos s [] [] false
theorem gw_le {ws : List (List UInt8)} {n : Nat} (h : ∀ a ∈ ws, a.length ≤ n) (i : Nat) : (Off.gw ws i).length ≤ n := by
  unfold Off.gw
  rw [List.getD_eq_getElem?_getD]
  rcases Nat.lt_or_ge i ws.length with h1 | h1
  · rw [List.getElem?_eq_getElem h1]; exact h _ (List.getElem_mem h1)
  · rw [List.getElem?_eq_none h1]; exact Nat.zero_le _

theorem valLoop_in : ∀ (l : List UInt8) (n : Int), Off.I64 n → Off.I64 (l.foldl Off.valStep n)
  | [], n, h => h
  | b :: l, n, h => by
    rw [List.foldl_cons]
    refine valLoop_in l _ ?_
    unfold Off.valStep
    split
    · exact Off.w64_in _
    · exact h
theorem value_in (l : List UInt8) : Off.I64 (Off.value l) := by
  unfold Off.value
  split
  · exact Off.w64_in _
  · exact valLoop_in l 0 i64_zero
theorem i64_one : Off.I64 1 := ⟨by decide, by decide⟩
theorem refRead_in (l : List UInt8) : Off.I64 (Off.refRead l).R ∧ Off.I64 (Off.refRead l).N := by
  unfold Off.refRead
  split
  · exact ⟨i64_zero, i64_zero⟩
  · split
    · exact ⟨i64_one, i64_zero⟩
    · split
      · rename_i h
        obtain ⟨h0, h1, h2, h3⟩ := Off.rightOp_iff.1 h.1
        exact ⟨⟨by omega, by omega⟩, ⟨by omega, by omega⟩⟩
      · exact ⟨i64_zero, i64_zero⟩
theorem unplain_len : ∀ (n : Nat) (l acc : List UInt8), l.length ≤ n → (Off.unplain acc l).length ≤ acc.length + l.length := by
  intro n
  induction n with
  | zero => intro l acc h; rw [List.eq_nil_of_length_eq_zero (Nat.le_zero.1 h)]; simp [Off.unplain]
  | succ n ih =>
    intro l acc h
    match l, h with
    | [], _ => simp [Off.unplain]
    | [x], _ => simp [Off.unplain]
    | [x, y], _ => simp [Off.unplain]
    | x :: a :: b :: r, h =>
      rw [Off.unplain]
      split
      · have := ih (a :: b :: r) (acc ++ [x]) (by simp at h ⊢; omega)
        simp at this ⊢; omega
      · have := ih r (acc ++ [UInt8.ofNat (Off.hexStep (Off.hexStep 0 a) b)]) (by simp at h; omega)
        simp at this ⊢; omega
theorem refPlain_len (l : List UInt8) : (Off.refPlain l).length ≤ l.length := by
  unfold Off.refPlain
  have := unplain_len l.tail.length l.tail [] (Nat.le_refl _)
  simp at this ⊢; omega

theorem askW_fits {ws : List (List UInt8)} (h : ∀ a ∈ ws, a.length ≤ 1000000) : CmdFits (Off.askW ws) := by
  have r1 := refRead_in (Off.gw ws 1)
  have r2 := refRead_in (Off.gw ws 2)
  have r3 := refRead_in (Off.gw ws 3)
  have v2 := value_in (Off.gw ws 2)
  have v3 := value_in (Off.gw ws 3)
  have p3 : (Off.refPlain (Off.gw ws 3)).length ≤ 1000000 := Nat.le_trans (refPlain_len _) (gw_le h 3)
  have z := i64_zero
  have e : ([] : List UInt8).length ≤ 1000000 := by simp
  unfold Off.askW
  simp only
  repeat' split
  all_goals first
    | exact ⟨r2.1, r2.2, z, z, z, z, p3⟩
    | exact ⟨r2.1, r2.2, r3.1, r3.2, z, z, e⟩
    | exact ⟨r1.1, r1.2, z, z, v2, z, p3⟩
    | exact ⟨r1.1, r1.2, z, z, v2, v3, e⟩
    | exact ⟨r1.1, r1.2, r2.1, r2.2, z, z, p3⟩
    | exact ⟨r1.1, r1.2, z, z, v2, z, e⟩
    | exact ⟨r1.1, r1.2, z, z, z, z, e⟩
    | exact ⟨z, z, z, z, z, z, e⟩
theorem guess_fits {ws : List (List UInt8)} (h : ∀ a ∈ ws, a.length ≤ 1000000) : EvFits (Off.guess ws) := by
  have v1 := value_in (Off.gw ws 1)
  have v2 := value_in (Off.gw ws 2)
  have z := i64_zero
  have cz := cmdFits_zero
  have ca := askW_fits (ws := ws.drop 2) fun a ha => h a (List.mem_of_mem_drop ha)
  unfold Off.guess
  simp only
  repeat' split
  all_goals first
    | exact ⟨v1, z, z, cz⟩
    | exact ⟨v1, z, v2, cz⟩
    | exact ⟨v1, v2, z, cz⟩
    | exact ⟨v1, z, z, ca⟩

/-- a line is read as its guess, where that is shown as the line -/
theorem parse_guess (x : List UInt8) (hx : x.length ≤ 1000000) : Off.parseLine x = if Off.evOk (Off.guess (Off.words x)) = true ∧ Off.evLine (Off.guess (Off.words x)) = x then some (Off.guess (Off.words x)) else none := by
  have hg := guess_fits (ws := Off.words x) fun a ha => Nat.le_trans (words_len ha) hx
  rw [← Off.refParse_eq x hg.isIn (fun e he => ?_)]
  · rfl
  · unfold Off.parseLine at he
    split at he
    · cases he
    · rename_i e' r' hev
      split at he
      · cases he; exact (event_fits hx hev).isIn
      · cases he

theorem lines_step {s done0 : List UInt8} {c : UInt8} {r : List UInt8} (hc : c ≠ 10) (h : (10 : UInt8) ∉ done0) (e : s = c :: r) : done0 ++ s = (done0 ++ [c]) ++ r ∧ (10 : UInt8) ∉ done0 ++ [c] := by
  subst e
  refine ⟨by simp, ?_⟩
  intro hm
  rcases List.mem_append.1 hm with hm | hm
  · exact h hm
  · simp at hm; exact hc hm.symm

end Go.Proofs.YtkpenijilnagjaaGreatDoor

namespace Go.Proofs.YtkpenijilnagjaaGreatDoor
open Go.RowKit

theorem rows_low {w : World} {b b' : Nat} {T : TypeId} {s : Nat} {v : Value} {n : Nat} {cs : List Value} (h : w.ownsRow b T s v n cs) (hb : b' ≤ b) : w.ownsRow b' T s v n cs := by
  obtain ⟨h1, h2⟩ := h
  refine ⟨h1, ?_⟩
  rcases h2 with h2 | ⟨g, c, row, e1, h3, h4⟩
  · exact .inl h2
  · exact .inr ⟨g, c, row, e1, Nat.le_trans hb h3, h4⟩

/-- the first lines are cut off: done, and cur begins the next -/
def CutAt (s : List UInt8) (k : Nat) (done : List (List UInt8)) (cur : List UInt8) : Prop := Off.lines s = done ++ Off.lines (cur ++ s.drop k) ∧ (10 : UInt8) ∉ cur
theorem cut_start (s : List UInt8) : CutAt s 0 [] [] := ⟨by simp, by simp⟩
theorem cut_end {s : List UInt8} {k : Nat} {done : List (List UInt8)} {cur : List UInt8} (h : CutAt s k done cur) (hk : k < s.length) (hc : s[k] = 10) : CutAt s (k + 1) (done ++ [cur]) [] := by
  refine ⟨?_, by simp⟩
  rw [h.1, List.drop_eq_getElem_cons hk, hc, Off.lines_hit _ h.2]
  simp
theorem cut_more {s : List UInt8} {k : Nat} {done : List (List UInt8)} {cur : List UInt8} (h : CutAt s k done cur) (hk : k < s.length) (hc : s[k] ≠ 10) : CutAt s (k + 1) done (cur ++ [s[k]]) := by
  obtain ⟨h1, h2⟩ := lines_step hc h.2 (List.drop_eq_getElem_cons hk)
  exact ⟨by rw [h.1, h1], h2⟩
theorem cut_last {s : List UInt8} {done : List (List UInt8)} {cur : List UInt8} (h : CutAt s s.length done cur) : Off.lines s = done ++ [cur] := by
  rw [h.1, List.drop_length, List.append_nil, Off.lines_miss h.2]

theorem parseL_last' {done : List (List UInt8)} {cur : List UInt8} {l : List Off.Ev} (h : FirstAre (done ++ [cur]) done.length l) : Off.parseL 0 (done ++ [cur]) = if cur = [] then .ok l else .error (done.length + 1) := by
  have h0 : (done ++ [cur]).length - 1 < (done ++ [cur]).length := by simp
  have hl : (done ++ [cur]).length - 1 = done.length := by simp
  have := parseL_last (L := done ++ [cur]) h0 (by rw [hl]; exact h)
  rw [this]
  have hx : (done ++ [cur])[(done ++ [cur]).length - 1]'h0 = cur := by simp
  rw [hx]
  simp

set_option maxRecDepth 100000 in
set_option maxHeartbeats 4000000 in
theorem refParseT_any (s : List UInt8) (w : World) (hE : Env w) (hs : s.length ≤ 9999) :
    Calls Tryz.prog 11 #[.string ⟨s.toArray⟩] w (ParseTPost w (Off.parseT s)) := by
  obtain ⟨i0, hi, hz0, hz1, hz2⟩ := info_parts infoStr
  obtain ⟨j0, hj, hy0, hy1, hy2⟩ := info_parts infoEv
  have hz := hE.size
  have kw : Keeps No w (w.alloc (.cells #[] 9)) := (Keeps.refl _ _).alloc _
  have hown : (w.alloc (.cells #[] 9)).ownsRow w.heap.size 9 1 (.slice (some ⟨w.heap.size, 0, none⟩) 0 0) ([] : List (List UInt8)).length (([] : List (List UInt8)).map strV) :=
    ⟨rfl, .inr ⟨w.heap.size, 0, #[], rfl, Nat.le_refl _, heap_alloc_new w _, by simp, by decide, rfl, rfl⟩⟩
  have hR : Hid (Off.parseT s = Off.parseL 0 (Off.lines s)) := rfl
  go_enter Tryz.func11, Tryz.ntmps11
  go_wp2
  generalize w.alloc (.cells #[] 9) = w1 at kw hown ⊢
  go_loopw [5, 6, 7] (fun v x i wr => ∃ (k g cap : Nat) (done : List (List UInt8)) (cur : List UInt8), k ≤ s.length ∧ i = .int .i64 k ∧ x = .string ⟨cur.toArray⟩ ∧ v = .slice (some ⟨g, 0, none⟩) done.length cap ∧
      wr.ownsRow w.heap.size 9 1 v done.length (done.map strV) ∧ Keeps No w wr ∧ Hid (CutAt s k done cur) ∧ done.length ≤ k ∧ cur.length ≤ k) (fun _ _ i _ => s.length - (intOf i).toNat)
  case atStart => exact ⟨0, w.heap.size, 0, [], [], Nat.zero_le _, rfl, rfl, rfl, hown, kw, cut_start s, Nat.le_refl _, Nat.le_refl _⟩
  case round =>
    clear hown kw
    obtain ⟨k, g, cap, done, cur, hk, rfl, rfl, rfl, hown, kr, hT, hd, hc⟩ := hrel
    by_cases hlt : k < s.length
    · have hsl := byte_run s k hlt
      have hce := fun h => Lib.hid (cut_end hT.out hlt h)
      have hcm := fun h => Lib.hid (cut_more hT.out hlt h)
      obtain ⟨c, hcx⟩ : ∃ c, c = s[k]'hlt := ⟨_, rfl⟩
      have hx : ∀ h, (ByteArray.mk s.toArray)[k]'h = c := fun _ => hcx.symm
      rw [← hcx] at hsl hce hcm
      clear hcx hT
      by_cases h10 : c = 10
      · have hC := hce h10
        subst h10
        clear hce hcm hsl
        go_wp2_with (at_builtin; refine wpList_append_own _ rfl _ _ 81 rfl w.heap.size 9 i0 (.string ⟨#[]⟩) 1 16 Tryz.underlying81 hi hz0 hz1 hz2 rfl (by decide) _ _ _ rfl (hown.alloc _) _ 1 1 [strV cur] rfl rfl (cells1 _ _) ?c2 ?c3 ?c4 ?c5 ?_)
        case c2 => intro u hu; simp at hu; subst hu; rfl
        case c3 => unfold maxLen; omega
        case c4 => omega
        case c5 => have := kr.size; simp; omega
        intro v' w2 hown' hg _
        have kg : Keeps No w w2 := (kr.alloc _).grown hg fun j hj => (hown.lt j hj).1
        have ho : w2.ownsRow w.heap.size 9 1 v' (done ++ [cur]).length ((done ++ [cur]).map strV) := by
          have he : (done ++ [cur]).map strV = done.map strV ++ [strV cur] := by simp
          rw [List.length_append, List.length_singleton, he]
          exact hown'
        obtain ⟨g2, cap2, rfl⟩ := Joins.ownsRow_form ho (by simp)
        go_wp2
        go_roundw
        case rel => exact ⟨k + 1, g2, cap2, done ++ [cur], [], by omega, by go_num, rfl, rfl, ho, kg, hC, by simp; omega, by simp⟩
        case measure => simp [intOf]; omega
      · have hC := hcm h10
        have n10 : ((c.toNat : Int) == 10) = false := by
          rw [beq_eq_false_iff_ne]; intro e; exact h10 (UInt8.toNat_inj.1 (by rw [show (10 : UInt8).toNat = 10 from rfl]; omega))
        have hcat := bytes_snoc cur c
        have m1 : ¬ 9223372036854775807 < cur.length + 1 := by omega
        clear hce hcm h10
        go_wp2
        go_roundw
        case rel => exact ⟨k + 1, g, cap, done, cur ++ [c], by omega, by go_num, rfl, rfl, hown, kr, hC, by omega, by simp; omega⟩
        case measure => simp [intOf]; omega
    · obtain rfl : k = s.length := by omega
      obtain ⟨wx, hwx⟩ : ∃ x, x = wr := ⟨_, rfl⟩
      subst hwx
      have hL := cut_last hT.out
      have hRL := hR.out
      rw [hL] at hRL
      have HRL := Lib.hid hRL
      have hll : ∀ x ∈ done, x.length ≤ 1000000 := fun x hx => by
        have := lines_mem_le (s := s) (x := x) (by rw [hL]; simp [hx]); omega
      clear hT hR hL hRL
      have d1 : ¬ (10000 : Int) < (done.length : Int) := by omega
      have d2 : ((done.length : Int) == 10000) = false := by rw [beq_eq_false_iff_ne]; omega
      obtain ⟨hbg, hgs⟩ := hown.lt g rfl
      have hcl : ∀ j (h : j < done.length), wx.cell? ⟨g, j, none⟩ = some (strV done[j]) := fun j h => by
        rw [hown.cellAt j (by omega), List.getElem?_map, List.getElem?_eq_getElem h]; rfl
      have ka : Keeps No w (wx.alloc (.cells #[] 79)) := kr.alloc _
      have kb : Keeps (fun b => wx.heap.size ≤ b) wx (wx.alloc (.cells #[] 79)) := (Keeps.refl _ _).alloc _
      have hoe : (wx.alloc (.cells #[] 79)).ownsRow wx.heap.size 79 14 (.slice (some ⟨wx.heap.size, 0, none⟩) 0 0) ([] : List Off.Ev).length (([] : List Off.Ev).flatMap evCells) :=
        ⟨rfl, .inr ⟨wx.heap.size, 0, #[], rfl, Nat.le_refl _, heap_alloc_new wx _, by simp, by decide, rfl, rfl⟩⟩
      go_wp2
      generalize wx.alloc (.cells #[] 79) = W1 at ka kb hoe ⊢
      go_loopw [8, 9] (fun v i wr => ∃ (k : Nat) (l : List Off.Ev), k ≤ done.length ∧ l.length = k ∧ i = .int .i64 k ∧ Hid (FirstAre (done ++ [cur]) k l) ∧ wr.ownsRow wx.heap.size 79 14 v l.length (l.flatMap evCells) ∧
        Keeps (fun b => wx.heap.size ≤ b) wx wr) (fun _ i _ => done.length - (intOf i).toNat)
      case atStart => exact ⟨0, [], Nat.zero_le _, rfl, rfl, rfl, hoe, kb⟩
      case round =>
        clear ka kb hoe
        obtain ⟨k, l, hk, hlk, rfl, hF, ho, kq⟩ := hrel
        have hzq := kq.size
        have hzr := kr.size
        have kwq : Keeps No w wr := kr.step kq fun b hb hlt => by omega
        by_cases hlt : k < done.length
        · have hli : (k : Int) < (done.length : Int) := by omega
          have hLk : (done ++ [cur])[k]'(by simp; omega) = done[k] := by rw [List.getElem_append_left hlt]
          have hkL : k < (done ++ [cur]).length := by simp; omega
          have hstop := fun h => Lib.hid (HRL.out.trans (parseL_stop hF.out (by simp; omega) hkL h))
          have hstep := fun e h => Lib.hid (first_step (e := e) hF.out hkL h)
          rw [hLk] at hstop hstep
          have hlen := hll _ (List.getElem_mem hlt)
          have hcell : wr.cell? ⟨g, k, none⟩ = some (strV done[k]) := (kq.cell (by omega) (by omega)).trans (hcl k hlt)
          have hpg := parse_guess done[k] hlen
          have hWd := refWords_any done[k] wr hlen
          have hwl : ∀ a ∈ Off.words done[k], a.length ≤ 1000000 := fun a ha => Nat.le_trans (words_len ha) hlen
          have hgf := guess_fits hwl
          have hG := fun (v : Value) (base : Nat) (w1 : World) (hE1 : Env w1) (h10 : 10 ≤ base) (hown1 : w1.ownsRow base 9 1 v (Off.words done[k]).length ((Off.words done[k]).map strV)) => guess_any v base (Off.words done[k]) w1 hE1 h10 hown1 (words_pos _) hwl
          clear hF hLk hwl hlen hll hcl
          generalize Off.guess (Off.words done[k]) = G at hpg hgf hG
          generalize Off.words done[k] = ws at hWd hG
          generalize done[k] = ln at hstop hstep hcell hpg hWd
          obtain ⟨kd, en, eto, ek, ef, ⟨ck, ⟨R, N⟩, pp, n, t, f, ⟨R2, N2⟩⟩⟩ := G
          go_wp2_with fail
          refine hWd.mono ?_
          rintro e w3 ⟨v1, rfl, ho1, k3⟩
          have hE3 := hE.no (kwq.trans k3)
          clear hWd
          go_wp2_with fail
          refine (hG v1 wr.heap.size w3 hE3 (by omega) ho1).mono ?_
          rintro e w4 ⟨rfl, k4⟩
          have K4 : Keeps No wr w4 := k3.step k4 fun b hb hlt2 => by omega
          have hz4 := K4.size
          have hE4 := hE.no (kwq.trans K4)
          clear hG k3 k4 ho1 hE3
          have hE5 := hE4.alloc (.cells #[.int .i64 kd, .int .i64 en, .int .i64 eto, .int .i64 ek, .bool ef, .int .i64 ck, .int .i64 R, .int .i64 N, .int .i64 pp, .int .i64 n, .string ⟨t.toArray⟩, .bool f, .int .i64 R2, .int .i64 N2] 79)
          have e5 := heap_alloc_new w4 (.cells #[.int .i64 kd, .int .i64 en, .int .i64 eto, .int .i64 ek, .bool ef, .int .i64 ck, .int .i64 R, .int .i64 N, .int .i64 pp, .int .i64 n, .string ⟨t.toArray⟩, .bool f, .int .i64 R2, .int .i64 N2] 79)
          have K5 : Keeps No wr (w4.alloc (.cells #[.int .i64 kd, .int .i64 en, .int .i64 eto, .int .i64 ek, .bool ef, .int .i64 ck, .int .i64 R, .int .i64 N, .int .i64 pp, .int .i64 n, .string ⟨t.toArray⟩, .bool f, .int .i64 R2, .int .i64 N2] 79)) := K4.alloc _
          have z5 : w4.heap.size < (w4.alloc (.cells #[.int .i64 kd, .int .i64 en, .int .i64 eto, .int .i64 ek, .bool ef, .int .i64 ck, .int .i64 R, .int .i64 N, .int .i64 pp, .int .i64 n, .string ⟨t.toArray⟩, .bool f, .int .i64 R2, .int .i64 N2] 79)).heap.size := by simp
          cases hok : Off.evOk ⟨kd, en, eto, ek, ef, ⟨ck, ⟨R, N⟩, pp, n, t, f, ⟨R2, N2⟩⟩⟩ with
          | false =>
            have hst := hstop (by rw [hpg, hok, if_neg (by simp)])
            have hY := rline_no hE5 hgf hok
            clear hstop hstep hpg hgf hok HRL
            go_wp2_with fail
            refine hY.mono ?_
            rintro e w6 ⟨rfl, k6⟩
            have K6 : Keeps No w w6 := (kwq.trans K5).trans k6
            have c6 : w6.cell? ⟨g, k, none⟩ = some (strV ln) := ((K5.trans k6).cell (by omega) id).trans hcell
            clear hY e5 K5 k6
            go_wp2_with fail
            exact bodyPost_ret (v := .tuple #[.slice none 0 0, .int .i64 ((k : Int) + 1), .int .i64 10]) (by simp [results, Tryz.results11, go_sem]) rfl (ParseTPost.bad hst.out rfl K6)
          | true =>
            have hY := rline_yes hE5 hgf hok
            generalize hle : Off.evLine ⟨kd, en, eto, ek, ef, ⟨ck, ⟨R, N⟩, pp, n, t, f, ⟨R2, N2⟩⟩⟩ = le at hpg hY
            by_cases heq : le = ln
            · have hst := hstep ⟨kd, en, eto, ek, ef, ⟨ck, ⟨R, N⟩, pp, n, t, f, ⟨R2, N2⟩⟩⟩ (by rw [hpg, hok, if_pos ⟨rfl, heq⟩])
              clear hstop hstep hpg hgf hok HRL hle
              subst heq
              go_wp2_with fail
              refine hY.mono ?_
              rintro e w6 ⟨rfl, k6⟩
              have K6 : Keeps No wr w6 := K5.trans k6
              have c6 : w6.cell? ⟨g, k, none⟩ = some (strV le) := (K6.cell (by omega) id).trans hcell
              have h6 := k6.heap e5 id
              have x6 := Lib.cell_of_heap h6
              have s6 := K6.size
              have hown6 := K6.owns (fun _ e => e.elim) ho
              clear hY e5 K5 k6
              go_wp2_with (at_builtin; refine wpList_append_own _ rfl _ _ 23 rfl wx.heap.size 79 j0 _ 14 120 Tryz.underlying23 hj hy0 hy1 hy2 rfl (by decide) _ l.length (l.flatMap evCells) rfl (hown6.alloc _) _ 1 1 (evCells ⟨kd, en, eto, ek, ef, ⟨ck, ⟨R, N⟩, pp, n, t, f, ⟨R2, N2⟩⟩⟩) rfl rfl ?c1 ?c2 ?c3 ?c4 ?c5 ?_)
              case c1 =>
                intro j u hj
                have hadd : ∀ b : Nat, (⟨b, 0, none⟩ : Addr).add j = ⟨b, j, none⟩ := fun b => by unfold Addr.add; split <;> simp_all
                have hb := heap_alloc_new w6 (.cells (evCells ⟨kd, en, eto, ek, ef, ⟨ck, ⟨R, N⟩, pp, n, t, f, ⟨R2, N2⟩⟩⟩).toArray 79)
                rw [hadd]
                refine (Lib.cell_of_heap (b := w6.heap.size) hb j).trans ?_
                simpa using hj
              case c2 => intro u hu; exact List.all_eq_true.1 (show (evCells ⟨kd, en, eto, ek, ef, ⟨ck, ⟨R, N⟩, pp, n, t, f, ⟨R2, N2⟩⟩⟩).all (·.oneCell') = true from rfl) u hu
              case c3 => unfold maxLen; omega
              case c4 => omega
              case c5 => simp; omega
              intro v' w7 hown' hg _
              have K7 : Keeps (fun b => wx.heap.size ≤ b) wx w7 := Keeps.grown ((kq.step K6 fun b hb _ => hb.elim).alloc _) hg (fun b hb => (hown6.lt b hb).1)
              go_wp2
              go_roundw
              case rel => exact ⟨k + 1, l ++ [⟨kd, en, eto, ek, ef, ⟨ck, ⟨R, N⟩, pp, n, t, f, ⟨R2, N2⟩⟩⟩], by omega, by simp [hlk], by go_num, hst, by simpa [hlk] using hown', K7⟩
              case measure => simp [intOf]; omega
            · have hst := hstop (by rw [hpg, if_neg (fun h => heq h.2)])
              have hb1 : (le != ln) = true := by simpa using heq
              have hb2 : (le == ln) = false := by simpa using heq
              clear hstop hstep hpg hgf hok HRL hle
              go_wp2_with fail
              refine hY.mono ?_
              rintro e w6 ⟨rfl, k6⟩
              have K6 : Keeps No w w6 := (kwq.trans K5).trans k6
              have c6 : w6.cell? ⟨g, k, none⟩ = some (strV ln) := ((K5.trans k6).cell (by omega) id).trans hcell
              clear hY e5 K5 k6
              go_wp2_with fail
              exact bodyPost_ret (v := .tuple #[.slice none 0 0, .int .i64 ((k : Int) + 1), .int .i64 10]) (by simp [results, Tryz.results11, go_sem]) rfl (ParseTPost.bad hst.out rfl K6)
        · obtain rfl : k = done.length := by omega
          have hq := HRL.out.trans (parseL_last' hF.out)
          clear hF HRL hll hcl
          by_cases hz0 : cur = []
          · rw [if_pos hz0] at hq
            subst hz0
            have hQ := Lib.hid hq
            clear hq
            go_wp2_with fail
            refine bodyPost_ret (v := .tuple #[u8, .int .i64 0, .int .i64 0]) (by simp [results, Tryz.results11, go_sem]) rfl (ParseTPost.good hQ.out rfl (rows_low ho (by omega)) kwq)
          · rw [if_neg hz0] at hq
            have hz1 : (cur != []) = true := by simpa using hz0
            have hz2 : (cur == []) = false := by simpa using hz0
            have hQ := Lib.hid hq
            clear hq
            go_wp2_with fail
            exact bodyPost_ret (v := .tuple #[.slice none 0 0, .int .i64 ((done.length : Int) + 1), .int .i64 10]) (by simp [results, Tryz.results11, go_sem]) rfl (ParseTPost.bad hQ.out rfl kwq)

end Go.Proofs.YtkpenijilnagjaaGreatDoor

namespace Go.Proofs.YtkpenijilnagjaaGreatDoor
open Go.RowKit

set_option maxRecDepth 100000 in
set_option maxHeartbeats 2000000 in
theorem parses_any (s : List UInt8) (w : World) (hE : Env w) :
    Calls Tryz.prog 3 #[.string ⟨s.toArray⟩] w fun e w' => e = .returned (.bool true) ∧ Keeps No w w' := by
  have hA := alive_any w hE
  by_cases hl : s.length ≤ 3000
  · have h1 : ¬ (3000 : Int) < (s.length : Int) := by omega
    have hP := fun w1 (h : Env w1) => parseT_any s w1 h (by omega) (lines_few (by omega))
    have hR := fun w1 (h : Env w1) => refParseT_any s w1 h (by omega)
    cases hp : Off.parseT s with
    | ok m =>
      rw [hp] at hP hR
      have hm := parseT_few hp
      clear hp
      go_enter Tryz.func3, Tryz.ntmps3
      go_wp2_with (go_at_call 9; refine hA.mono ?_; rintro e w1 ⟨rfl, k1⟩)
      have hE1 := hE.no k1
      refine (hP _ hE1).mono ?_
      rintro e w2 ⟨⟨va, rfl, ha⟩, k2⟩
      have hE2 := hE1.no k2
      have la := rows_lie ha
      obtain ⟨xa, xc, rfl, _⟩ := id la
      go_wp2_with fail
      refine (hR _ hE2).mono ?_
      rintro e w3 ⟨⟨vb, rfl, hb⟩, k3⟩
      have lb := rows_lie hb
      obtain ⟨ya, yc, rfl, _⟩ := id lb
      have la3 := la.no k3
      go_wp2_with fail
      refine (same_any _ _ m m w3 la3 lb (by omega) (by omega)).mono ?_
      rw [decide_eq_true rfl]
      rintro e w4 ⟨rfl, k4⟩
      go_wp2_with fail
      go_ret
      exact ⟨rfl, ((k1.trans k2).trans k3).trans k4⟩
    | error q =>
      rw [hp] at hP hR
      clear hp
      go_enter Tryz.func3, Tryz.ntmps3
      go_wp2_with (go_at_call 9; refine hA.mono ?_; rintro e w1 ⟨rfl, k1⟩)
      have hE1 := hE.no k1
      refine (hP _ hE1).mono ?_
      rintro e w2 ⟨rfl, k2⟩
      have hE2 := hE1.no k2
      go_wp2_with fail
      refine (hR _ hE2).mono ?_
      rintro e w3 ⟨rfl, k3⟩
      have ln : EvLies (.slice none 0 0) [] w3 := rows_lie (base := 0) (World.ownsRow_nil _ _ _ _)
      go_wp2_with fail
      refine (same_any _ _ [] [] w3 ln ln (by simp) (by simp)).mono ?_
      rw [decide_eq_true rfl]
      rintro e w4 ⟨rfl, k4⟩
      go_wp2_with fail
      go_ret
      exact ⟨rfl, ((k1.trans k2).trans k3).trans k4⟩
  · have h1 : (3000 : Int) < (s.length : Int) := by omega
    go_enter Tryz.func3, Tryz.ntmps3
    go_wp2_with (go_at_call 9; refine hA.mono ?_; rintro e w1 ⟨rfl, k1⟩)
    all_goals (go_ret; exact ⟨rfl, k1⟩)

end Go.Proofs.YtkpenijilnagjaaGreatDoor
