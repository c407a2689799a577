/- offshootref03.Read: the name of a text. -/
import Derived.Test.YtkpenijilnagjaaGreatDoorRefE
import Derived.Test.YtkpenijilnagjaaGreatDoorRead
namespace Go.Proofs.YtkpenijilnagjaaGreatDoor
open Go.RowKit

/-- how Read ends -/
def RefReadPost (i : Off.Bid) (w : World) (e : Ending) (w' : World) : Prop := ∃ ok : Bool, e = .returned (.tuple #[.agg #[.int .i64 i.R, .int .i64 i.N], .bool ok]) ∧ Keeps No w w'

theorem refRead_ok {s : List UInt8} {R N : Int} (h1 : ¬ s = Off.sRoot) (h2 : ¬ s = Off.sTrash) (h : Off.rdId s = ⟨R, N⟩) (hr : Off.rightOp ⟨R, N⟩ = true) (hs : Off.showId ⟨R, N⟩ = s) : Off.refRead s = ⟨R, N⟩ := by
  unfold Off.refRead; rw [if_neg h1, if_neg h2, h, if_pos ⟨hr, hs⟩]
theorem refRead_no {s : List UInt8} {R N : Int} (h1 : ¬ s = Off.sRoot) (h2 : ¬ s = Off.sTrash) (h : Off.rdId s = ⟨R, N⟩) (hr : ¬ (Off.rightOp ⟨R, N⟩ = true ∧ Off.showId ⟨R, N⟩ = s)) : Off.refRead s = ⟨0, 0⟩ := by
  unfold Off.refRead; rw [if_neg h1, if_neg h2, h, if_neg hr]; rfl

/-- the numbers that are read are below ten to the count of digits -/
theorem rd_bound : ∀ (l : List UInt8) (R N P : Int) (pb : Bool), 0 ≤ R → R < P → 0 ≤ N → N < P →
    0 ≤ (l.foldl Off.rdStep (R, N, pb)).1 ∧ (l.foldl Off.rdStep (R, N, pb)).1 < P * 10 ^ l.length ∧ 0 ≤ (l.foldl Off.rdStep (R, N, pb)).2.1 ∧ (l.foldl Off.rdStep (R, N, pb)).2.1 < P * 10 ^ l.length
  | [], R, N, P, pb, h1, h2, h3, h4 => by simp; exact ⟨h1, h2, h3, h4⟩
  | b :: l, R, N, P, pb, h1, h2, h3, h4 => by
    have hstep : ∃ R' N' pb', Off.rdStep (R, N, pb) b = (R', N', pb') ∧ 0 ≤ R' ∧ R' < P * 10 ∧ 0 ≤ N' ∧ N' < P * 10 := by
      unfold Off.rdStep
      simp only
      split
      · exact ⟨R, N, true, rfl, by omega, by omega, by omega, by omega⟩
      · split
        · rename_i hd
          simp only [Bool.and_eq_true] at hd
          have := hd.1
          unfold Off.isDig at this
          simp only [Bool.and_eq_true, decide_eq_true_eq] at this
          exact ⟨R, _, pb, rfl, by omega, by omega, by omega, by omega⟩
        · split
          · rename_i hd
            unfold Off.isDig at hd
            simp only [Bool.and_eq_true, decide_eq_true_eq] at hd
            exact ⟨_, N, pb, rfl, by omega, by omega, by omega, by omega⟩
          · exact ⟨R, N, pb, rfl, by omega, by omega, by omega, by omega⟩
    obtain ⟨R', N', pb', hs, g1, g2, g3, g4⟩ := hstep
    have ih := rd_bound l R' N' (P * 10) pb' g1 g2 g3 g4
    rw [List.foldl_cons, hs, List.length_cons, Int.pow_succ, Int.mul_comm (10 ^ l.length) 10, ← Int.mul_assoc]
    exact ih

theorem rd_small {l : List UInt8} {R N : Int} {pb : Bool} (h : l.foldl Off.rdStep (0, 0, false) = (R, N, pb)) (hl : l.length ≤ 12) : 0 ≤ R ∧ R ≤ 1000000000000 ∧ 0 ≤ N ∧ N ≤ 1000000000000 := by
  obtain ⟨h1, h2, h3, h4⟩ := rd_bound l 0 0 1 false (by omega) (by omega) (by omega) (by omega)
  rw [h] at h1 h2 h3 h4
  have key : ∀ n : Fin 13, (10 : Int) ^ n.val ≤ 1000000000000 := by decide
  have := key ⟨l.length, by omega⟩
  simp only at h1 h2 h3 h4 this
  omega

theorem rd_next {s : List UInt8} {k : Nat} (h : k < s.length) {p : Int × Int × Bool} (hp : (s.take k).foldl Off.rdStep (0, 0, false) = p) : (s.take (k + 1)).foldl Off.rdStep (0, 0, false) = Off.rdStep p s[k] := by
  rw [List.take_succ_eq_append_getElem h, List.foldl_append, hp]; rfl
theorem rd_end {s : List UInt8} {k : Nat} {R N : Int} {pb : Bool} (hk : k ≤ s.length) (hk2 : k ≤ 12) (h : ¬ (k < s.length ∧ k < 12)) (hp : (s.take k).foldl Off.rdStep (0, 0, false) = (R, N, pb)) : Off.rdId s = ⟨R, N⟩ := by
  have ht : s.take 12 = s.take k := by
    by_cases h1 : k = 12
    · rw [h1]
    · rw [List.take_of_length_le (by omega), List.take_of_length_le (by omega)]
  unfold Off.rdId Off.rdLoop
  rw [ht, hp]

set_option maxRecDepth 100000 in
set_option maxHeartbeats 2000000 in
theorem refRead_any (s : List UInt8) (w : World) (hE : Env w) (hs : s.length ≤ 1000000) :
    Calls Tryz.prog 110 #[.string ⟨s.toArray⟩] w (RefReadPost (Off.refRead s) w) := by
  by_cases h1 : s = Off.sRoot
  · have r0 := hE.root0
    have r1 := hE.root1
    have hz0 : 0 < w.heap.size := by have := hE.size; omega
    subst h1
    unfold Off.sRoot
    go_enter Tryz.func110, Tryz.ntmps110
    go_wp2
    refine bodyPost_ret (v := .tuple #[.agg #[.int .i64 0, .int .i64 0], .bool true]) (by simp [results, Tryz.results110, go_sem]) rfl ⟨true, rfl, (by repeat (first | exact Keeps.refl _ _ | assumption | refine Keeps.alloc ?_ _ | refine Keeps.drewN ?_ _ | refine Keeps.drew ?_ | refine Keeps.set1 ?_ _ | refine Keeps.no ?_ (by assumption) | refine Keeps.any ?_))⟩
  by_cases h2 : s = Off.sTrash
  · have r0 := hE.trash0
    have r1 := hE.trash1
    have hz0 : 1 < w.heap.size := by have := hE.size; omega
    subst h2
    unfold Off.sTrash
    go_enter Tryz.func110, Tryz.ntmps110
    go_wp2
    refine bodyPost_ret (v := .tuple #[.agg #[.int .i64 1, .int .i64 0], .bool true]) (by simp [results, Tryz.results110, go_sem]) rfl ⟨true, rfl, (by repeat (first | exact Keeps.refl _ _ | assumption | refine Keeps.alloc ?_ _ | refine Keeps.drewN ?_ _ | refine Keeps.drew ?_ | refine Keeps.set1 ?_ _ | refine Keeps.no ?_ (by assumption) | refine Keeps.any ?_))⟩
  have g1 : (s == [114, 111, 111, 116]) = false := by simpa [Off.sRoot] using h1
  have g2 : (s == [116, 114, 97, 115, 104]) = false := by simpa [Off.sTrash] using h2
  have H1 := Lib.hid h1
  have H2 := Lib.hid h2
  clear h1 h2
  have ha : ((w.alloc (.cells #[.int .i64 0, .int .i64 0] 34)).alloc (.cells #[.int .i64 0, .int .i64 0] 34)).heap[w.heap.size]? = some (.cells #[.int .i64 0, .int .i64 0] 34 (0, 0)) :=
    heap_alloc_keep (heap_alloc_new w _) _
  have hb : ((w.alloc (.cells #[.int .i64 0, .int .i64 0] 34)).alloc (.cells #[.int .i64 0, .int .i64 0] 34)).heap[w.heap.size + 1]? = some (.cells #[.int .i64 0, .int .i64 0] 34 (0, 0)) := by
    have := heap_alloc_new (w.alloc (.cells #[.int .i64 0, .int .i64 0] 34)) (.cells #[.int .i64 0, .int .i64 0] 34)
    simpa using this
  have kw : Keeps No w ((w.alloc (.cells #[.int .i64 0, .int .i64 0] 34)).alloc (.cells #[.int .i64 0, .int .i64 0] 34)) := ((Keeps.refl _ _).alloc _).alloc _
  go_enter Tryz.func110, Tryz.ntmps110
  go_wp2
  generalize hw1 : (w.alloc (.cells #[.int .i64 0, .int .i64 0] 34)).alloc (.cells #[.int .i64 0, .int .i64 0] 34) = w1 at kw ha hb ⊢
  clear hw1
  go_loopw [5, 6] (fun p i wr => ∃ (k : Nat) (R N : Int) (pb : Bool), k ≤ s.length ∧ k ≤ 12 ∧ i = .int .i64 k ∧ p = .bool pb ∧ wr.heap[w.heap.size + 1]? = some (.cells #[.int .i64 R, .int .i64 N] 34 (0, 0)) ∧
      wr.heap[w.heap.size]? = some (.cells #[.int .i64 0, .int .i64 0] 34 (0, 0)) ∧ Keeps No w wr ∧ Hid ((s.take k).foldl Off.rdStep (0, 0, false) = (R, N, pb))) (fun _ i _ => 12 - (intOf i).toNat)
  case atStart => exact ⟨0, 0, 0, false, Nat.zero_le _, by omega, rfl, rfl, hb, ha, kw, rfl⟩
  case round =>
    obtain ⟨k, R, N, pb, hk, hk12, rfl, rfl, hbr, har, kr, hT⟩ := hrel
    have hsm := rd_small hT.out (by rw [List.length_take]; omega)
    obtain ⟨q1, q2, q3, q4⟩ := hsm
    by_cases hlt : k < s.length ∧ k < 12
    · obtain ⟨hl1, hl2⟩ := hlt
      have hl2i : (k : Int) < 12 := by omega
      have hT' := rd_next hl1 hT.out
      obtain ⟨c, hcx⟩ : ∃ c, c = s[k]'hl1 := ⟨_, rfl⟩
      have hx : ∀ h, (ByteArray.mk s.toArray)[k]'h = c := fun _ => hcx.symm
      rw [← hcx] at hT'
      clear hcx hT
      have cb := Lib.cell_of_heap hbr
      have fb := Lib.frozen_of_heap hbr
      unfold Off.rdStep at hT'
      simp only at hT'
      by_cases h46 : c.toNat = 46
      · rw [if_pos h46] at hT'
        have HN := Lib.hid hT'
        have n46 : ((c.toNat : Int) == 46) = true := by simp; omega
        clear hT' h46
        go_wp2
        go_roundw
        case rel => exact ⟨k + 1, R, N, true, by omega, by omega, by go_num, rfl, hbr, har, kr, HN⟩
        case measure => simp [intOf]; omega
      · rw [if_neg h46] at hT'
        have n46 : ((c.toNat : Int) == 46) = false := by simp; omega
        by_cases hd : Off.isDig c = true
        · rw [hd] at hT'
          have hd' := hd
          unfold Off.isDig at hd'
          simp only [Bool.and_eq_true, decide_eq_true_eq] at hd'
          have b1 : (48 : Int) ≤ c.toNat := by omega
          have b2 : (c.toNat : Int) ≤ 57 := by omega
          have wa : IntKind.u8.wrap ((c.toNat : Int) - 48) = (c.toNat : Int) - 48 := IntWalk.u8_in _ (by omega)
          have wb : IntKind.i64.wrap ((c.toNat : Int) - 48) = (c.toNat : Int) - 48 := IntWalk.i64_in _ (by omega)
          have wc : IntKind.i64.wrap (N * 10) = N * 10 := IntWalk.i64_in _ (by omega)
          have wd : IntKind.i64.wrap (N * 10 + ((c.toNat : Int) - 48)) = N * 10 + ((c.toNat : Int) - 48) := IntWalk.i64_in _ (by omega)
          have we : IntKind.i64.wrap (R * 10) = R * 10 := IntWalk.i64_in _ (by omega)
          have wf : IntKind.i64.wrap (R * 10 + ((c.toNat : Int) - 48)) = R * 10 + ((c.toNat : Int) - 48) := IntWalk.i64_in _ (by omega)
          clear hd hd' h46
          cases pb with
          | true =>
            simp only [Bool.and_self, if_true] at hT'
            have HN := Lib.hid hT'
            clear hT'
            go_wp2
            go_region
            all_goals
              have hb2 := heap_set hbr 1 (.int .i64 (N * 10 + ((c.toNat : Int) - 48)))
              have ha2 := heap_set_ne har (b' := w.heap.size + 1) (j := 1) (by omega) (.int .i64 (N * 10 + ((c.toNat : Int) - 48)))
              have ks : Keeps No w (wr.setCell ⟨w.heap.size + 1, 1, none⟩ (.int .i64 (N * 10 + ((c.toNat : Int) - 48)))).drew := (kr.setNew (by omega) _).drew
              go_wp2
              go_roundw
              case rel => exact ⟨k + 1, R, _, true, by omega, by omega, by go_num, rfl, hb2, ha2, ks, HN⟩
              case measure => simp [intOf]; omega
          | false =>
            simp only [Bool.and_false, if_true] at hT'
            rw [if_neg (by decide)] at hT'
            have HN := Lib.hid hT'
            clear hT'
            go_wp2
            go_region
            all_goals
              have hb2 := heap_set hbr 0 (.int .i64 (R * 10 + ((c.toNat : Int) - 48)))
              have ha2 := heap_set_ne har (b' := w.heap.size + 1) (j := 0) (by omega) (.int .i64 (R * 10 + ((c.toNat : Int) - 48)))
              have ks : Keeps No w (wr.setCell ⟨w.heap.size + 1, 0, none⟩ (.int .i64 (R * 10 + ((c.toNat : Int) - 48)))).drew := (kr.setNew (by omega) _).drew
              go_wp2
              go_roundw
              case rel => exact ⟨k + 1, _, N, false, by omega, by omega, by go_num, rfl, hb2, ha2, ks, HN⟩
              case measure => simp [intOf]; omega
        · rw [if_neg (by simp [hd]), if_neg hd] at hT'
          have HN := Lib.hid hT'
          have hb : ¬ 48 ≤ c.toNat ∨ (48 ≤ c.toNat ∧ ¬ c.toNat ≤ 57) := by
            unfold Off.isDig at hd
            simp only [Bool.and_eq_true, decide_eq_true_eq] at hd
            omega
          clear hT' hd h46
          rcases hb with hb | ⟨hb, hb'⟩
          · have b1 : ¬ (48 : Int) ≤ c.toNat := by omega
            go_wp2
            go_roundw
            case rel => exact ⟨k + 1, R, N, pb, by omega, by omega, by go_num, rfl, hbr, har, kr, HN⟩
            case measure => simp [intOf]; omega
          · have b1 : (48 : Int) ≤ c.toNat := by omega
            have b2 : ¬ (c.toNat : Int) ≤ 57 := by omega
            go_wp2
            go_roundw
            case rel => exact ⟨k + 1, R, N, pb, by omega, by omega, by go_num, rfl, hbr, har, kr, HN⟩
            case measure => simp [intOf]; omega
    · have hid := rd_end hk hk12 hlt hT.out
      have cb := Lib.cell_of_heap hbr
      have fb := Lib.frozen_of_heap hbr
      have hE1 := hE.no kr
      have cr := fun w1 => refRightOp_any R N w1
      have cs := fun w1 h => refShow_any R N w1 h
      have hcond : ¬ (k : Int) < (s.length : Int) ∨ ((k : Int) < (s.length : Int) ∧ ¬ (k : Int) < 12) := by omega
      have fin : ∀ w2, Keeps No wr w2 → ∀ x y : Value, Keeps No w ((w2.setCell ⟨w.heap.size, 0, none⟩ x).setCell ⟨w.heap.size, 1, none⟩ y) := fun w2 k2 x y =>
        ((kr.trans k2).setNew (Nat.le_refl _) _).setNew (Nat.le_refl _) _
      clear hT hlt
      cases hr : Off.rightOp ⟨R, N⟩ with
      | false =>
        rw [hr] at cr
        have HF : Hid (Off.refRead s = ⟨0, 0⟩) := refRead_no H1.out H2.out hid (by simp [hr])
        clear hr hid cs
        rcases hcond with hc | ⟨hc, hc2⟩
        all_goals
          go_wp2_with fail
          refine (cr _).mono ?_
          rintro e w2 ⟨rfl, k2⟩
          have b2 := k2.heap har id
          have c2 := Lib.cell_of_heap b2
          have f2 := Lib.frozen_of_heap b2
          clear cr
          go_wp2
          have b4 := heap_set (heap_set b2 0 (.int .i64 0)) 1 (.int .i64 0)
          have c4 := Lib.cell_of_heap b4
          refine bodyPost_ret (v := .tuple #[.agg #[.int .i64 0, .int .i64 0], .bool false]) (by simp [results, Tryz.results110, go_sem, c4]) rfl ⟨false, ?_, fin _ k2 _ _⟩
          rw [HF.out]
      | true =>
        rw [hr] at cr
        by_cases hs2 : Off.showId ⟨R, N⟩ = s
        · have HF : Hid (Off.refRead s = ⟨R, N⟩) := refRead_ok H1.out H2.out hid hr hs2
          rw [hs2] at cs
          clear hr hid hs2
          rcases hcond with hc | ⟨hc, hc2⟩
          all_goals
            go_wp2_with fail
            refine (cr _).mono ?_
            rintro e w2 ⟨rfl, k2⟩
            have e2 := Lib.cell_of_heap (k2.heap hbr id)
            clear cr cb fb
            go_wp2_with fail
            refine (cs _ (hE1.no k2)).mono ?_
            rintro e w3 ⟨rfl, k3⟩
            have b2 := k3.heap (k2.heap har id) id
            have c2 := Lib.cell_of_heap b2
            have f2 := Lib.frozen_of_heap b2
            have e3 := Lib.cell_of_heap (k3.heap (k2.heap hbr id) id)
            clear cs e2
            go_wp2
            have b4 := heap_set (heap_set b2 0 (.int .i64 R)) 1 (.int .i64 N)
            have c4 := Lib.cell_of_heap b4
            refine bodyPost_ret (v := .tuple #[.agg #[.int .i64 R, .int .i64 N], .bool true]) (by simp [results, Tryz.results110, go_sem, c4]) rfl ⟨true, ?_, fin _ (k2.trans k3) _ _⟩
            rw [HF.out]
        · have HF : Hid (Off.refRead s = ⟨0, 0⟩) := refRead_no H1.out H2.out hid (fun h => hs2 h.2)
          have hne : (Off.showId ⟨R, N⟩ == s) = false := beq_false_of_ne hs2
          clear hr hid hs2
          generalize Off.showId ⟨R, N⟩ = sh at cs hne
          rcases hcond with hc | ⟨hc, hc2⟩
          all_goals
            go_wp2_with fail
            refine (cr _).mono ?_
            rintro e w2 ⟨rfl, k2⟩
            have e2 := Lib.cell_of_heap (k2.heap hbr id)
            clear cr cb fb
            go_wp2_with fail
            refine (cs _ (hE1.no k2)).mono ?_
            rintro e w3 ⟨rfl, k3⟩
            have b2 := k3.heap (k2.heap har id) id
            have c2 := Lib.cell_of_heap b2
            have f2 := Lib.frozen_of_heap b2
            clear cs e2
            go_wp2
            have b4 := heap_set (heap_set b2 0 (.int .i64 0)) 1 (.int .i64 0)
            have c4 := Lib.cell_of_heap b4
            refine bodyPost_ret (v := .tuple #[.agg #[.int .i64 0, .int .i64 0], .bool false]) (by simp [results, Tryz.results110, go_sem, c4]) rfl ⟨false, ?_, fin _ (k2.trans k3) _ _⟩
            rw [HF.out]

end Go.Proofs.YtkpenijilnagjaaGreatDoor
