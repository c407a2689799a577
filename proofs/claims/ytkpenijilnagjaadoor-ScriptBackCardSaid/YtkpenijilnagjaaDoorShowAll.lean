/- Show: events as a text. -/
import Derived.Test.YtkpenijilnagjaaDoorParseT
namespace Go.Proofs.YtkpenijilnagjaaDoor
open Go.RowKit

/-- the slice v holds the events l -/
def EvLies (v : Value) (l : List Off.Ev) (w : World) : Prop :=
  ∃ a c, v = .slice a l.length c ∧ (l ≠ [] → ∃ g o, a = some ⟨g, o, none⟩ ∧ g < w.heap.size ∧ ∀ j u, (l.flatMap evCells)[j]? = some u → w.cell? ⟨g, o + j, none⟩ = some u)

theorem EvLies.no {v : Value} {l : List Off.Ev} {w w' : World} (h : EvLies v l w) (k : Keeps No w w') : EvLies v l w' := by
  obtain ⟨a, c, hv, h⟩ := h
  refine ⟨a, c, hv, fun hl => ?_⟩
  obtain ⟨g, o, ha, hg, hc⟩ := h hl
  exact ⟨g, o, ha, Nat.lt_of_lt_of_le hg k.size, fun j u hu => (k.cell hg id).trans (hc j u hu)⟩

theorem flat_at : ∀ (l : List Off.Ev) (k i : Nat) (hk : k < l.length), i < 14 → (l.flatMap evCells)[k * 14 + i]? = (evCells l[k])[i]?
  | [], k, i, hk, _ => by simp at hk
  | e :: l, 0, i, _, hi => by
    rw [List.flatMap_cons, List.getElem?_append_left (by rw [evCells_len]; omega)]; simp
  | e :: l, k + 1, i, hk, hi => by
    rw [List.flatMap_cons, List.getElem?_append_right (by rw [evCells_len]; omega), evCells_len, show (k + 1) * 14 + i - 14 = k * 14 + i by omega, flat_at l k i (by simpa using hk) hi]
    simp

theorem evLine_lt (e : Off.Ev) (h : EvFits e) : (Off.evLine e).length ≤ 100001000 := by
  obtain ⟨h1, h2, h3, h4⟩ := h
  have a1 := itoa_len e.n h1
  have a2 := itoa_len e.to h2
  have a3 := itoa_len e.keep h3
  have a4 := cmdWords_len e.cmd h4
  refine Nat.le_trans (joinW_len _) ?_
  unfold Off.evWords
  split
  · simp only [List.map_append, List.sum_append, List.map_cons, List.map_nil, List.sum_cons, List.sum_nil, Off.sDo, List.length_cons, List.length_nil]; have a5 : (List.map (fun x : Off.Bs => x.length + 1) (Off.cmdWords e.cmd)).sum ≤ 100000000 := a4; refine Nat.le_trans (Nat.add_le_add_left a5 _) ?_; omega
  · repeat' split
    all_goals (simp [Off.sSync, Off.sCompact, Off.sStart, Off.sDrop, Off.sCrash, Off.sTell, Off.sDeliver, Off.sCopy]; try omega)

/-- what the first k events are shown as is t -/
def ShownTo (l : List Off.Ev) (k : Nat) (t : List UInt8) : Prop :=
  Off.showL 0 l = match Off.showL k (l.drop k) with | .ok u => .ok (t ++ u) | .error e => .error e
theorem shown_start (l : List Off.Ev) : ShownTo l 0 [] := by
  unfold ShownTo
  simp only [List.drop_zero, List.nil_append]
  cases Off.showL 0 l <;> rfl
theorem shown_step {l : List Off.Ev} {k : Nat} {t : List UInt8} (h : ShownTo l k t) (hk : k < l.length) (ho : Off.evOk l[k] = true) : ShownTo l (k + 1) (t ++ (Off.evLine l[k] ++ [10])) := by
  unfold ShownTo at h ⊢
  rw [h, List.drop_eq_getElem_cons hk, Off.showL, if_pos ho]
  cases Off.showL (k + 1) (l.drop (k + 1)) <;> simp
theorem shown_stop {l : List Off.Ev} {k : Nat} {t : List UInt8} (h : ShownTo l k t) (hk : k < l.length) (ho : Off.evOk l[k] = false) : Off.showL 0 l = .error k := by
  unfold ShownTo at h
  rw [h, List.drop_eq_getElem_cons hk, Off.showL, if_neg (by simp [ho])]
theorem shown_end {l : List Off.Ev} {t : List UInt8} (h : ShownTo l l.length t) : Off.showL 0 l = .ok t := by
  unfold ShownTo at h
  rw [h, List.drop_length, Off.showL]; simp

theorem Keeps.below_no {w w1 w2 : World} (h : Keeps No w w1) (h' : Below w.heap.size w1 w2) : Keeps No w w2 :=
  ⟨h'.os.trans h.os, h'.tape.trans h.tape, h'.output.trans h.output, Nat.le_trans h.size h'.size, fun k hk hn => (h'.block k hk).trans (h.block k hk hn)⟩
theorem builder_no {B b : Nat} {bs : List Value} {w w' : World} (h : Lib.IsBuilder 43 5 B b bs w) (k : Keeps No w w') : Lib.IsBuilder 43 5 B b bs w' := by
  rcases h with ⟨hB, v, hbk, hown, hne⟩ | ⟨hB, v, hbk, hown, hne⟩
  · exact .inl ⟨hB, v, k.heap hbk id, k.owns (fun _ e => e.elim) hown, hne⟩
  · exact .inr ⟨hB, v, k.heap hbk id, k.owns (fun _ e => e.elim) hown, hne⟩

/-- how Show ends -/
def ShowTPost (w : World) (r : Except Nat (List UInt8)) (e : Ending) (w' : World) : Prop :=
  (match r with
    | .ok t => e = .returned (.tuple #[.string ⟨t.toArray⟩, .int .i64 (-1)])
    | .error k => e = .returned (.tuple #[.string ⟨#[]⟩, .int .i64 k])) ∧ Keeps No w w'
theorem ShowTPost.bad {w w' : World} {r : Except Nat (List UInt8)} {k : Nat} {v : Value} (h : r = .error k) (hv : v = .tuple #[.string ⟨#[]⟩, .int .i64 k]) (kk : Keeps No w w') : ShowTPost w r (.returned v) w' := by
  subst h hv; exact ⟨rfl, kk⟩
theorem ShowTPost.good {w w' : World} {r : Except Nat (List UInt8)} {t : List UInt8} {v : Value} (h : r = .ok t) (hv : v = .tuple #[.string ⟨t.toArray⟩, .int .i64 (-1)]) (kk : Keeps No w w') : ShowTPost w r (.returned v) w' := by
  subst h hv; exact ⟨rfl, kk⟩

set_option maxRecDepth 100000 in
set_option maxHeartbeats 2000000 in
theorem showT_any (v : Value) (l : List Off.Ev) (w : World) (hE : Env w) (hv : EvLies v l w) (hin : ∀ e ∈ l, EvFits e) (hn : l.length ≤ 10000) :
    Calls Tryd.prog 7 #[v] w (ShowTPost w (Off.showL 0 l)) := by
  obtain ⟨a, c, rfl, ha⟩ := hv
  have hz := hE.size
  have k0 : Keeps No w (w.alloc (.cells #[.pointer none, .slice none 0 0] 43)) := (Keeps.refl _ _).alloc _
  have b0 : Lib.IsBuilder 43 5 w.heap.size w.heap.size (Lib.byteCells []) (w.alloc (.cells #[.pointer none, .slice none 0 0] 43)) :=
    .inl ⟨Nat.le_refl _, .slice none 0 0, heap_alloc_new w _, World.ownsRow_nil _ _ _ _, by simp [Value.ownBlock]⟩
  go_enter Tryd.func7, Tryd.ntmps7
  go_wp2
  go_loopw [11] (fun i wr => ∃ (k : Nat) (t : List UInt8), k ≤ l.length ∧ i = .int .i64 k ∧ Hid (ShownTo l k t) ∧ t.length ≤ k * 100001001 ∧
    Lib.IsBuilder 43 5 w.heap.size w.heap.size (Lib.byteCells t) wr ∧ Keeps No w wr) (fun i _ => l.length - (intOf i).toNat)
  case atStart => exact ⟨0, [], Nat.zero_le _, rfl, shown_start l, by simp, b0, k0⟩
  case round =>
    obtain ⟨k, t, hk, rfl, hT, ht, hb, kr⟩ := hrel
    by_cases hlt : k < l.length
    · obtain ⟨g, o, rfl, hg, hc⟩ := ha (fun e => by subst e; simp at hlt)
      have hf := hin l[k] (List.getElem_mem hlt)
      have hE1 := hE.no kr
      have hcell : ∀ i, i < 14 → wr.cell? ⟨g, o + k * 14 + i, none⟩ = (evCells l[k])[i]? := by
        intro i hi
        have h1 : i < (evCells l[k]).length := by rw [evCells_len]; exact hi
        rw [(kr.cell hg id), Nat.add_assoc, hc (k * 14 + i) ((evCells l[k])[i]'h1) ((flat_at l k i hlt hi).trans (List.getElem?_eq_getElem h1))]
        exact (List.getElem?_eq_getElem h1).symm
      have hS := fun q => show_any l[k] (wr.alloc q) (hE1.alloc q) hf
      have hlen := evLine_lt l[k] hf
      have hstep := fun h => Lib.hid (shown_step hT.out hlt h)
      have hstop := fun h => Lib.hid (shown_stop hT.out hlt h)
      have hbw : w.heap.size ≤ wr.heap.size := kr.size
      clear hT hc hin
      generalize l[k] = ev at hf hcell hS hlen hstep hstop
      obtain ⟨kd, en, eto, ek, ef, ⟨ck, ⟨R, N⟩, pp, n, tx, f, ⟨R2, N2⟩⟩⟩ := ev
      have x0 := hcell 0 (by decide); have x1 := hcell 1 (by decide); have x2 := hcell 2 (by decide); have x3 := hcell 3 (by decide); have x4 := hcell 4 (by decide); have x5 := hcell 5 (by decide); have x6 := hcell 6 (by decide)
      have x7 := hcell 7 (by decide); have x8 := hcell 8 (by decide); have x9 := hcell 9 (by decide); have x10 := hcell 10 (by decide); have x11 := hcell 11 (by decide); have x12 := hcell 12 (by decide); have x13 := hcell 13 (by decide)
      simp only [evCells, List.getElem?_cons_zero, List.getElem?_cons_succ, Nat.add_zero] at x0 x1 x2 x3 x4 x5 x6 x7 x8 x9 x10 x11 x12 x13
      clear hcell
      generalize hln : Off.evLine ⟨kd, en, eto, ek, ef, ⟨ck, ⟨R, N⟩, pp, n, tx, f, ⟨R2, N2⟩⟩⟩ = ln at *
      generalize hok : Off.evOk ⟨kd, en, eto, ek, ef, ⟨ck, ⟨R, N⟩, pp, n, tx, f, ⟨R2, N2⟩⟩⟩ = ok at *
      have hm1 : ¬ 9223372036854775807 < ln.length + 1 := by omega
      have hlb : (Lib.byteCells t).length = t.length := Lib.byteCells_length t
      have hsz : (ByteArray.mk ln.toArray ++ ByteArray.mk #[10]).size = ln.length + 1 := by rw [ByteArray.size_append]; simp [ByteArray.size]
      have hcat : Lib.byteCells t ++ Lib.strCells (ByteArray.mk ln.toArray ++ ByteArray.mk #[10]) = Lib.byteCells (t ++ (ln ++ [10])) := by
        rw [Lib.strCells_eq, bytes_app, Lib.byteCells_append]
        congr 2
        simp
      have HC := Lib.hid hcat
      clear hcat
      go_wp2_with (first
        | (go_at_call 11; refine (hS _).mono ?_; rintro e w2 ⟨rfl, k2⟩
           have K2 := (kr.alloc (.cells #[.int .i64 kd, .int .i64 en, .int .i64 eto, .int .i64 ek, .bool ef, .int .i64 ck, .int .i64 R, .int .i64 N, .int .i64 pp, .int .i64 n, .string ⟨tx.toArray⟩, .bool f, .int .i64 R2, .int .i64 N2] 38)).trans k2
           have hb2 := builder_no (builder_no hb ((Keeps.refl No wr).alloc _)) k2
           have hbw2 := K2.size)
        | (go_at_call 12; refine (lib_write w.heap.size w.heap.size (Lib.byteCells t) _ w2 hb2 (by rw [hlb, hsz]; omega) hbw2).mono ?_; rintro e w3 ⟨rfl, hb3, k3⟩))
      · go_ret2
        exact ShowTPost.bad (hstop (by first | assumption | (cases ok <;> simp_all))).out rfl K2
      · rw [HC.out] at hb3
        have hq := hstep (by first | assumption | (cases ok <;> simp_all))
        go_roundw
        case rel => exact ⟨k + 1, t ++ (ln ++ [10]), by omega, by go_num, hq, by simp only [List.length_append, List.length_cons, List.length_nil]; omega, .inr hb3, K2.below_no k3⟩
        case measure => simp [intOf]; omega
    · obtain rfl : k = l.length := by omega
      have hq := Lib.hid (shown_end hT.out)
      have hbw : w.heap.size ≤ wr.heap.size := kr.size
      clear hT
      go_wp2_with (go_at_call 13; refine (lib_string w.heap.size w.heap.size t wr hb hbw).mono ?_; rintro e w2 ⟨rfl, k2⟩)
      go_ret2
      exact ShowTPost.good hq.out rfl (kr.below_no k2)

end Go.Proofs.YtkpenijilnagjaaDoor
