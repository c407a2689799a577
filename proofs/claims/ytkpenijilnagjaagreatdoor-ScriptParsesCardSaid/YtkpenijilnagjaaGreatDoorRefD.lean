/- offshootref25.words: a line's words. -/
import Derived.Test.YtkpenijilnagjaaGreatDoorRefC
import Derived.Laws.OwnMore
import Derived.Lib.SmallJoins
namespace Go.Proofs.YtkpenijilnagjaaGreatDoor
open Go.RowKit

/-- how words ends -/
def WordsPost (w : World) (ws : List (List UInt8)) (e : Ending) (w' : World) : Prop :=
  ∃ v, e = .returned v ∧ w'.ownsRow w.heap.size 9 1 v ws.length (ws.map strV) ∧ Keeps No w w'

theorem byte_run (s : List UInt8) (k : Nat) (h : k < s.length) (W : World) :
    (Instr.slice 9 (.string ⟨s.toArray⟩) (some (.int .i64 (k : Int))) (some (.int .i64 ((k : Int) + 1))) none).run Tryz.prog W = .ok (.string ⟨#[s[k]]⟩) W := by
  have hsz : (ByteArray.mk s.toArray).size = s.length := size_mk s
  rw [run_slice_string_if W _ _ _ _ _ _ Tryz.underlying9, if_pos ⟨by omega, by rw [hsz]; omega⟩, if_pos ⟨by omega, by omega⟩, Int.toNat_natCast, show ((k : Int) + 1).toNat = k + 1 by omega]
  have he : (ByteArray.mk s.toArray).extract k (k + 1) = ⟨#[s[k]]⟩ := by
    apply ByteArray.ext
    apply Array.ext'
    rw [Lib.extract_data]
    show (List.drop k s).take (k + 1 - k) = _
    rw [List.drop_eq_getElem_cons h, show k + 1 - k = 1 by omega]
    rfl
  rw [he]

theorem last_set (done : List (List UInt8)) (cur x : List UInt8) : ((done ++ [cur]).map strV).set done.length (strV x) = (done ++ [x]).map strV := by
  rw [List.map_append, List.set_append_right _ _ (by simp)]
  simp

theorem cells1 (w : World) (x : Value) : ∀ j u, [x][j]? = some u → (w.alloc (.cells #[x] 9)).cell? ((⟨w.heap.size, 0, none⟩ : Addr).add j) = some u := by
  intro j u hj
  match j, hj with
  | 0, hj =>
    simp at hj; subst hj
    show (World.alloc _ _).cell? ⟨w.heap.size, 0, none⟩ = _
    rw [World.cell?_alloc_at _ _ _ _ rfl]; rfl

theorem words_cons (done : List (List UInt8)) (cur : List UInt8) (q : Bool) (b : UInt8) (l : List UInt8) :
    Off.wordsLoop done cur q (b :: l) = if b.toNat = 32 ∧ (if b.toNat = 34 then !q else q) = false then Off.wordsLoop (done ++ [cur]) [] (if b.toNat = 34 then !q else q) l else Off.wordsLoop done (cur ++ [b]) (if b.toNat = 34 then !q else q) l := by
  rw [Off.wordsLoop]

set_option maxRecDepth 100000 in
set_option maxHeartbeats 2000000 in
theorem refWords_any (s : List UInt8) (w : World) (hs : s.length ≤ 1000000) :
    Calls Tryz.prog 38 #[.string ⟨s.toArray⟩] w (WordsPost w (Off.words s)) := by
  obtain ⟨i0, hi, hz0, hz1, hz2⟩ := info_parts infoStr
  have kw : Keeps No w (w.alloc (.cells #[.string ⟨#[]⟩] 9)) := (Keeps.refl _ _).alloc _
  have hown : (w.alloc (.cells #[.string ⟨#[]⟩] 9)).ownsRow w.heap.size 9 1 (.slice (some ⟨w.heap.size, 0, none⟩) 1 1) (0 + 1) (([] ++ [[]]).map strV) :=
    ⟨rfl, .inr ⟨w.heap.size, 1, #[.string ⟨#[]⟩], rfl, Nat.le_refl _, heap_alloc_new w _, by omega, by decide, rfl, rfl⟩⟩
  go_enter Tryz.func38, Tryz.ntmps38
  go_wp2
  generalize hw1 : w.alloc (.cells #[.string ⟨#[]⟩] 9) = w1 at kw hown ⊢
  clear hw1
  go_loopw [3, 4, 5] (fun v q i wr => ∃ (k : Nat) (done : List (List UInt8)) (cur : List UInt8) (qb : Bool), k ≤ s.length ∧ i = .int .i64 k ∧ q = .bool qb ∧ wr.ownsRow w.heap.size 9 1 v (done.length + 1) ((done ++ [cur]).map strV) ∧
      Keeps No w wr ∧ Hid (Off.words s = Off.wordsLoop done cur qb (s.drop k)) ∧ done.length ≤ k ∧ cur.length ≤ k) (fun _ _ i _ => s.length - (intOf i).toNat)
  case atStart => exact ⟨0, [], [], false, Nat.zero_le _, rfl, rfl, hown, kw, rfl, Nat.le_refl _, Nat.le_refl _⟩
  case round =>
    obtain ⟨k, done, cur, q, hk, rfl, rfl, hownr, kr, hT, hdn, hcr⟩ := hrel
    obtain ⟨g, cap, rfl⟩ := Joins.ownsRow_form hownr (Nat.succ_pos _)
    have hgb := (hownr.lt g rfl).1
    by_cases hlt : k < s.length
    · have hT' := hT.out
      rw [List.drop_eq_getElem_cons hlt, words_cons] at hT'
      have hsl := byte_run s k hlt
      obtain ⟨c, hcx⟩ : ∃ c, c = s[k]'hlt := ⟨_, rfl⟩
      have hx : ∀ h, (ByteArray.mk s.toArray)[k]'h = c := fun _ => hcx.symm
      rw [← hcx] at hT' hsl
      clear hcx hT
      have m1 : ¬ 9223372036854775807 < cur.length + 1 := by omega
      have hcat := bytes_snoc cur c
      have hcell : wr.cell? ⟨g, done.length, none⟩ = some (strV cur) := by
        rw [hownr.cellAt done.length (by omega)]
        simp
      have hfz := hownr.frozenAt done.length
      by_cases h34 : c = 34
      · subst h34
        rw [if_neg (by rintro ⟨h, _⟩; cases h), if_pos (show UInt8.toNat 34 = 34 from rfl)] at hT'
        have hT2 := Lib.hid hT'
        clear hT'
        have ho : (wr.setCell ⟨g, done.length, none⟩ (strV (cur ++ [34]))).drew.ownsRow w.heap.size 9 1 (.slice (some ⟨g, 0, none⟩) (done.length + 1) cap) (done.length + 1) ((done ++ [cur ++ [34]]).map strV) := by
          have h1 := (hownr.stored done.length (strV (cur ++ [34]))).1
          rw [last_set] at h1
          exact h1
        have kg : Keeps No w (wr.setCell ⟨g, done.length, none⟩ (strV (cur ++ [34]))).drew := (kr.setNew hgb _).drew
        go_wp2
        go_region
        all_goals
          go_wp2
          go_roundw
          case rel => exact ⟨k + 1, done, cur ++ [34], _, by omega, by go_num, rfl, ho, kg, hT2, by omega, by simp; omega⟩
          case measure => simp [intOf]; omega
      · have n34 : ((c.toNat : Int) == 34) = false := by
          rw [beq_eq_false_iff_ne]; intro e; exact h34 (UInt8.toNat_inj.1 (by rw [show (34 : UInt8).toNat = 34 from rfl]; omega))
        have h34' : ¬ c.toNat = 34 := fun e => h34 (UInt8.toNat_inj.1 e)
        rw [if_neg h34'] at hT'
        by_cases h32 : c = 32
        · subst h32
          cases q with
          | false =>
            rw [if_pos ⟨show UInt8.toNat 32 = 32 from rfl, rfl⟩] at hT'
            have hT2 := Lib.hid hT'
            clear hT' hcat m1
            go_wp2_with (at_builtin; refine wpList_append_own _ rfl _ _ 81 rfl w.heap.size 9 i0 (.string ⟨#[]⟩) 1 16 Tryz.underlying81 hi hz0 hz1 hz2 rfl (by decide) _ _ _ rfl (hownr.alloc _) _ 1 1 [strV []] rfl rfl (cells1 _ _) ?c2 ?c3 ?c4 ?c5 ?_)
            case c2 => intro u hu; simp at hu; subst hu; rfl
            case c3 => unfold maxLen; omega
            case c4 => omega
            case c5 => have := kr.size; simp; omega
            intro v' w2 hown' hg _
            have kg : Keeps No w w2 := (kr.alloc _).grown hg fun j hj => (hownr.lt j hj).1
            have ho : w2.ownsRow w.heap.size 9 1 v' ((done ++ [cur]).length + 1) (((done ++ [cur]) ++ [[]]).map strV) := by
              have he : ((done ++ [cur]) ++ [[]]).map strV = List.map strV done ++ [strV cur, strV []] := by simp
              rw [List.length_append, List.length_singleton, he]
              exact hown'
            go_wp2
            go_roundw
            case rel => exact ⟨k + 1, done ++ [cur], [], false, by omega, by go_num, rfl, ho, kg, hT2, by simp; omega, by simp⟩
            case measure => simp [intOf]; omega
          | true =>
            rw [if_neg (by rintro ⟨_, h⟩; cases h)] at hT'
            have hT2 := Lib.hid hT'
            clear hT'
            have ho : (wr.setCell ⟨g, done.length, none⟩ (strV (cur ++ [32]))).drew.ownsRow w.heap.size 9 1 (.slice (some ⟨g, 0, none⟩) (done.length + 1) cap) (done.length + 1) ((done ++ [cur ++ [32]]).map strV) := by
              have h1 := (hownr.stored done.length (strV (cur ++ [32]))).1
              rw [last_set] at h1
              exact h1
            have kg : Keeps No w (wr.setCell ⟨g, done.length, none⟩ (strV (cur ++ [32]))).drew := (kr.setNew hgb _).drew
            go_wp2
            go_region
            all_goals
              go_wp2
              go_roundw
              case rel => exact ⟨k + 1, done, cur ++ [32], _, by omega, by go_num, rfl, ho, kg, hT2, by omega, by simp; omega⟩
              case measure => simp [intOf]; omega
        · have n32 : ((c.toNat : Int) == 32) = false := by
            rw [beq_eq_false_iff_ne]; intro e; exact h32 (UInt8.toNat_inj.1 (by rw [show (32 : UInt8).toNat = 32 from rfl]; omega))
          have h32' : ¬ c.toNat = 32 := fun e => h32 (UInt8.toNat_inj.1 e)
          rw [if_neg (fun h => h32' h.1)] at hT'
          have hT2 := Lib.hid hT'
          clear hT' h34 h34' h32 h32'
          have ho : (wr.setCell ⟨g, done.length, none⟩ (strV (cur ++ [c]))).drew.ownsRow w.heap.size 9 1 (.slice (some ⟨g, 0, none⟩) (done.length + 1) cap) (done.length + 1) ((done ++ [cur ++ [c]]).map strV) := by
            have h1 := (hownr.stored done.length (strV (cur ++ [c]))).1
            rw [last_set] at h1
            exact h1
          have kg : Keeps No w (wr.setCell ⟨g, done.length, none⟩ (strV (cur ++ [c]))).drew := (kr.setNew hgb _).drew
          go_wp2
          go_region
          all_goals
            go_wp2
            go_roundw
            case rel => exact ⟨k + 1, done, cur ++ [c], _, by omega, by go_num, rfl, ho, kg, hT2, by omega, by simp; omega⟩
            case measure => simp [intOf]; omega
    · obtain rfl : k = s.length := by omega
      have hfin : Hid (Off.words s = done ++ [cur]) := by
        show _ = _
        rw [hT.out, List.drop_length, Off.wordsLoop]
      clear hT
      go_wp2
      go_ret
      refine ⟨_, rfl, ?_, kr⟩
      rw [hfin.out, List.length_append, List.length_singleton]
      exact hownr

end Go.Proofs.YtkpenijilnagjaaGreatDoor
