/- Parse: the events of a text. -/
import Derived.Test.YtkpenijilnagjaaDoorParse
import Derived.Test.YtkpenijilnagjaaDoorScrText
namespace Go.Proofs.YtkpenijilnagjaaDoor
open Go.RowKit

def evCells (e : Off.Ev) : List Value :=
  [.int .i64 e.kind, .int .i64 e.n, .int .i64 e.to, .int .i64 e.keep, .bool e.flag, .int .i64 e.cmd.kind, .int .i64 e.cmd.block.R, .int .i64 e.cmd.block.N, .int .i64 e.cmd.pos, .int .i64 e.cmd.n,
    .string ⟨e.cmd.text.toArray⟩, .bool e.cmd.flag, .int .i64 e.cmd.other.R, .int .i64 e.cmd.other.N]

theorem infoEv : (Tryd.prog.info? 38).map (fun i => (i.zero, i.size, i.bytes)) = some (some (.agg #[.int .i64 0, .int .i64 0, .int .i64 0, .int .i64 0, .bool false, .int .i64 0, .int .i64 0, .int .i64 0, .int .i64 0, .int .i64 0, .string ⟨#[]⟩, .bool false, .int .i64 0, .int .i64 0]), 14, 120) := by kernel_rfl

theorem evCells_len (e : Off.Ev) : (evCells e).length = 14 := rfl
theorem flat_len (l : List Off.Ev) : (l.flatMap evCells).length = l.length * 14 := by
  induction l with
  | nil => rfl
  | cons e l ih => rw [List.flatMap_cons, List.length_append, ih, evCells_len, List.length_cons]; omega

/-- the first k lines are events -/
def FirstAre (L : List (List UInt8)) (k : Nat) (l : List Off.Ev) : Prop := (L.take k).map Off.parseLine = l.map some

theorem first_step {L : List (List UInt8)} {k : Nat} {l : List Off.Ev} {e : Off.Ev} (h : FirstAre L k l) (hk : k < L.length) (he : Off.parseLine L[k] = some e) : FirstAre L (k + 1) (l ++ [e]) := by
  unfold FirstAre at h ⊢
  rw [List.take_succ_eq_append_getElem hk, List.map_append, h, List.map_append]
  simp [he]
theorem parseL_first : ∀ (k : Nat) (L : List (List UInt8)) (l : List Off.Ev) (i : Nat), FirstAre L k l → k < L.length → Off.parseL i L = match Off.parseL (i + k) (L.drop k) with | .ok r => .ok (l ++ r) | .error e => .error e
  | 0, L, l, i, h, _ => by
    have : l = [] := by unfold FirstAre at h; simpa using h.symm
    subst this
    simp only [List.drop_zero, Nat.add_zero, List.nil_append]
    cases Off.parseL i L <;> rfl
  | k + 1, [], l, i, h, hk => by simp at hk
  | k + 1, a :: L, l, i, h, hk => by
    unfold FirstAre at h
    cases l with
    | nil => simp at h
    | cons e l =>
      simp only [List.take_succ_cons, List.map_cons, List.cons.injEq] at h
      simp only [List.length_cons] at hk
      have hne : L ≠ [] := by intro hh; subst hh; simp at hk
      rw [Off.parseL_cons hne, h.1]
      simp only [List.drop_succ_cons]
      rw [parseL_first k L l (i + 1) h.2 (by omega), show i + 1 + k = i + (k + 1) by omega]
      cases Off.parseL (i + (k + 1)) (L.drop k) <;> rfl
theorem parseL_stop {L : List (List UInt8)} {k : Nat} {l : List Off.Ev} (h : FirstAre L k l) (hk : k < L.length - 1) (hk' : k < L.length) (he : Off.parseLine L[k] = none) : Off.parseL 0 L = .error (k + 1) := by
  rw [parseL_first k L l 0 h hk', List.drop_eq_getElem_cons hk', Off.parseL_cons (by intro hh; have := congrArg List.length hh; simp at this; omega), he]
  simp
theorem parseL_last {L : List (List UInt8)} {l : List Off.Ev} (h0 : L.length - 1 < L.length) (h : FirstAre L (L.length - 1) l) : Off.parseL 0 L = if L[L.length - 1] = [] then .ok l else .error L.length := by
  rw [parseL_first _ L l 0 h h0, List.drop_eq_getElem_cons h0, show L.drop (L.length - 1 + 1) = [] from List.drop_eq_nil_of_le (by omega), Off.parseL]
  by_cases hh : L[L.length - 1] = []
  · rw [if_pos hh, if_pos hh]; simp
  · rw [if_neg hh, if_neg hh]; simp; omega
theorem lines_mem_le : ∀ {s x : List UInt8}, x ∈ Off.lines s → x.length ≤ s.length
  | [], x, h => by simp [Off.lines] at h; simp [h]
  | b :: l, x, h => by
    unfold Off.lines at h
    split at h
    · rcases List.mem_cons.1 h with rfl | h
      · simp
      · have := lines_mem_le h; simp; omega
    · split at h
      · simp at h; subst h; simp
      · rename_i y r hy
        rcases List.mem_cons.1 h with rfl | h
        · have := lines_mem_le (s := l) (x := y) (by rw [hy]; simp); simp; omega
        · have := lines_mem_le (s := l) (x := x) (by rw [hy]; simp [h]); simp; omega

/-- how Parse ends -/
def ParseTPost (w : World) (r : Except Nat (List Off.Ev)) (e : Ending) (w' : World) : Prop :=
  (match r with
    | .ok l => ∃ v, e = .returned (.tuple #[v, .int .i64 0, .int .i64 0]) ∧ w'.ownsRow (w.heap.size + 1) 38 14 v l.length (l.flatMap evCells)
    | .error k => e = .returned (.tuple #[.slice none 0 0, .int .i64 k, .int .i64 10])) ∧ Keeps No w w'

theorem ParseTPost.bad {w w' : World} {r : Except Nat (List Off.Ev)} {k : Nat} {v : Value} (h : r = .error k) (hv : v = .tuple #[.slice none 0 0, .int .i64 k, .int .i64 10]) (kk : Keeps No w w') : ParseTPost w r (.returned v) w' := by
  subst h hv; exact ⟨rfl, kk⟩
theorem ParseTPost.good {w w' : World} {r : Except Nat (List Off.Ev)} {l : List Off.Ev} {u v : Value} (h : r = .ok l) (hv : v = .tuple #[u, .int .i64 0, .int .i64 0]) (ho : w'.ownsRow (w.heap.size + 1) 38 14 u l.length (l.flatMap evCells)) (kk : Keeps No w w') : ParseTPost w r (.returned v) w' := by
  subst h hv; exact ⟨⟨u, rfl, ho⟩, kk⟩

/-- strings.Split by an end of a line -/
theorem lib_split (s : List UInt8) (w : World) (hE : Env w) (hs : s.length < 4294967281) :
    Calls Tryd.prog 14 #[.string ⟨s.toArray⟩, .string ⟨#[10]⟩] w fun e w' =>
      e = .returned (.slice (some ⟨w.heap.size, 0, none⟩) (Off.lines s).length (Off.lines s).length) ∧ w' = w.alloc (.cells ((Off.lines s).map strV).toArray 9) := by
  obtain ⟨m, hm⟩ := hE.maxLen
  refine (Tryd.strings_Split ⟨s.toArray⟩ ⟨#[10]⟩ m w (by rw [size_mk]; exact hs) hm (by decide)).mono ?_
  rintro e w' ⟨rfl, rfl⟩
  have hl := Off.splitB_lines _ ⟨s.toArray⟩ rfl
  have hd : (ByteArray.mk s.toArray).data.toList = s := by simp
  rw [hd] at hl
  have hn : (Off.lines s).length = Lib.countB ⟨s.toArray⟩ ⟨#[10]⟩ + 1 := by
    rw [← hl, List.length_map]; exact Lib.splitB_all _ (by decide) 0 _ _ rfl
  have hv : (Lib.splitB ⟨#[10]⟩ 0 (Lib.countB ⟨s.toArray⟩ ⟨#[10]⟩) ⟨s.toArray⟩).map Value.string = (Off.lines s).map strV := by
    rw [← hl, List.map_map]
    refine List.map_congr_left fun x _ => ?_
    show Value.string x = Value.string ⟨x.data.toList.toArray⟩
    simp
  rw [hn, hv]
  exact ⟨rfl, rfl⟩

set_option maxRecDepth 100000 in
set_option maxHeartbeats 2000000 in
theorem parseT_any (s : List UInt8) (w : World) (hE : Env w) (hs : s.length ≤ 1000000) (hn : (Off.lines s).length ≤ 10000) :
    Calls Tryd.prog 8 #[.string ⟨s.toArray⟩] w (ParseTPost w (Off.parseT s)) := by
  have hne := Off.lines_ne s
  have hS := lib_split s w hE (by omega)
  have hll : ∀ l ∈ Off.lines s, l.length ≤ 1000000 := fun l hl => Nat.le_trans (lines_mem_le hl) hs
  have hR : Hid (Off.parseT s = Off.parseL 0 (Off.lines s)) := rfl
  generalize hL : Off.lines s = L at hS hn hne hR hll
  have hL0 : 1 ≤ L.length := by cases L with | nil => exact absurd rfl hne | cons a b => simp
  obtain ⟨i0, hi, hz0, hz1, hz2⟩ := info_parts infoEv
  have r0 : (w.alloc (.cells (L.map strV).toArray 9)).heap[w.heap.size]? = some (.cells (L.map strV).toArray 9 (0, 0)) := heap_alloc_new w _
  have k0 : Keeps No w (w.alloc (.cells (L.map strV).toArray 9)) := (Keeps.refl _ _).alloc _
  have hz := hE.size
  have h0 : (w.alloc (.cells (L.map strV).toArray 9)).heap.size = w.heap.size + 1 := by simp
  go_enter Tryd.func8, Tryd.ntmps8
  go_wp2_with (go_at_call 14; refine hS.mono ?_; rintro e w1 ⟨rfl, rfl⟩)
  generalize w.alloc (.cells (L.map strV).toArray 9) = W0 at *
  go_loopw [7, 34] (fun v i wr => ∃ (k : Nat) (l : List Off.Ev), k ≤ L.length - 1 ∧ l.length = k ∧ i = .int .i64 k ∧ Hid (FirstAre L k l) ∧ wr.ownsRow (w.heap.size + 1) 38 14 v k (l.flatMap evCells) ∧
    wr.heap[w.heap.size]? = some (.cells (L.map strV).toArray 9 (0, 0)) ∧ Keeps No w wr ∧ w.heap.size + 1 ≤ wr.heap.size) (fun _ i _ => L.length - (intOf i).toNat)
  case atStart => exact ⟨0, [], Nat.zero_le _, rfl, rfl, rfl, World.ownsRow_nil _ _ _ _, r0, k0, by omega⟩
  case round =>
    obtain ⟨k, l, hk, hlk, rfl, hF, hown, hr, kr, hsz⟩ := hrel
    by_cases hlt : k < L.length - 1
    · have hcell : wr.cell? ⟨w.heap.size, k, none⟩ = some (strV (L[k]'(by omega))) := by rw [Lib.cell_of_heap hr]; simp [show k < L.length by omega]
      have hk' : k < L.length := by omega
      have hP := parse_any (L[k]'hk') wr (hE.no kr) (hll _ (List.getElem_mem hk'))
      have hne1 := hll
      clear hll hne1
      cases hp : Off.parseLine (L[k]'hk') with
      | none =>
        have hq := Lib.hid (hR.out.trans (parseL_stop hF.out hlt hk' hp))
        rw [hp] at hP
        clear hp hF hown
        generalize L[k]'hk' = ln at hcell hP
        go_wp2_with (go_at_call 15; refine hP.mono ?_; rintro e w2 ⟨⟨⟨kd, en, eto, ek, ef, ⟨ck, ⟨R, N⟩, pp, n, t, f, ⟨R2, N2⟩⟩⟩, rfl⟩, k2⟩)
        refine bodyPost_ret (v := .tuple #[.slice none 0 0, .int .i64 ((k : Int) + 1), .int .i64 10]) (by simp [results, Tryd.results8, go_sem]) rfl (ParseTPost.bad hq.out rfl ?_)
        exact (kr.trans k2).alloc _
      | some ev =>
        have hq := Lib.hid (first_step hF.out hk' hp)
        rw [hp] at hP
        clear hp hF
        generalize L[k]'hk' = ln at hcell hP
        obtain ⟨kd, en, eto, ek, ef, ⟨ck, ⟨R, N⟩, pp, n, t, f, ⟨R2, N2⟩⟩⟩ := ev
        go_wp2_with (first
          | (go_at_call 15; refine hP.mono ?_; rintro e w2 ⟨rfl, k2⟩
             have hown2 := k2.owns (fun _ e => e.elim) hown
             have hsz2 := k2.size)
          | (at_builtin; refine wpList_append_own _ rfl _ _ 22 rfl (w.heap.size + 1) 38 i0 _ 14 120 Tryd.underlying22 hi hz0 hz1 hz2 rfl (by decide) _ k (l.flatMap evCells) rfl ?c0 _ 1 1 (evCells ⟨kd, en, eto, ek, ef, ⟨ck, ⟨R, N⟩, pp, n, t, f, ⟨R2, N2⟩⟩⟩) rfl rfl ?c1 ?c2 ?c3 ?c4 ?c5 ?_))
        case c0 => exact (hown2.alloc _).alloc _
        case c1 =>
          intro j u hj
          have hadd : ∀ b : Nat, (⟨b, 0, none⟩ : Addr).add j = ⟨b, j, none⟩ := fun b => by unfold Addr.add; split <;> simp_all
          have hb := heap_alloc_new (w2.alloc (.cells (evCells ⟨kd, en, eto, ek, ef, ⟨ck, ⟨R, N⟩, pp, n, t, f, ⟨R2, N2⟩⟩⟩).toArray 38)) (.cells (evCells ⟨kd, en, eto, ek, ef, ⟨ck, ⟨R, N⟩, pp, n, t, f, ⟨R2, N2⟩⟩⟩).toArray 38)
          rw [hadd]
          refine (Lib.cell_of_heap (b := w2.heap.size + 1) (by rw [← hb]; congr 1; simp) j).trans ?_
          simpa using hj
        case c2 => intro u hu; exact List.all_eq_true.1 (show (evCells ⟨kd, en, eto, ek, ef, ⟨ck, ⟨R, N⟩, pp, n, t, f, ⟨R2, N2⟩⟩⟩).all (·.oneCell') = true from rfl) u hu
        case c3 => unfold maxLen; omega
        case c4 => omega
        case c5 => simp; omega
        intro v' w3 hown' hg _
        have K3 : Keeps No w w3 := Keeps.grown (((kr.trans k2).alloc _).alloc _) hg (fun b hb => by have := (hown2.lt b hb).1; omega)
        have hr3 : w3.heap[w.heap.size]? = some (.cells (L.map strV).toArray 9 (0, 0)) := by
          refine (hg.block w.heap.size (by simp; omega) (fun e => ?_)).trans (heap_alloc_keep (heap_alloc_keep (k2.heap hr id) _) _)
          have := (hown2.lt _ e.symm).1; omega
        have hs3 : w2.heap.size ≤ w3.heap.size := Nat.le_trans (by simp; omega) hg.size
        go_wp2
        go_roundw
        case rel => exact ⟨k + 1, l ++ [⟨kd, en, eto, ek, ef, ⟨ck, ⟨R, N⟩, pp, n, t, f, ⟨R2, N2⟩⟩⟩], by omega, by simp [hlk], by go_num, hq, by simpa using hown', hr3, K3, by omega⟩
        case measure => simp [intOf]; omega
    · obtain rfl : k = L.length - 1 := by omega
      have h1 : L.length - 1 < L.length := by omega
      have hcell : wr.cell? ⟨w.heap.size, L.length - 1, none⟩ = some (strV (L[L.length - 1]'h1)) := by rw [Lib.cell_of_heap hr]; simp
      have hq := parseL_last h1 hF.out
      clear hF hll
      by_cases hz : L[L.length - 1]'h1 = []
      · rw [if_pos hz] at hq
        rw [hz] at hcell
        have hQ := Lib.hid (hR.out.trans hq)
        clear hz hq
        go_wp2_with fail
        refine bodyPost_ret (v := .tuple #[u7, .int .i64 0, .int .i64 0]) (by simp [results, Tryd.results8, go_sem]) rfl (ParseTPost.good hQ.out rfl ?_ kr)
        rw [hlk]; exact hown
      · rw [if_neg hz] at hq
        have hQ := Lib.hid (hR.out.trans hq)
        have hz1 : (L[L.length - 1]'h1 != []) = true := by simpa using hz
        have hz2 : (L[L.length - 1]'h1 == []) = false := by simpa using hz
        clear hq
        generalize L[L.length - 1]'h1 = ln at hcell hz hz1 hz2
        go_wp2_with fail
        exact bodyPost_ret (v := .tuple #[.slice none 0 0, .int .i64 (L.length : Int), .int .i64 10]) (by simp [results, Tryd.results8, go_sem]) rfl (ParseTPost.bad hQ.out rfl kr)

end Go.Proofs.YtkpenijilnagjaaDoor
