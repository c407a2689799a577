/- offshootref25.plain: the text of a word. -/
import Derived.Test.YtkpenijilnagjaaGreatDoorRefD
namespace Go.Proofs.YtkpenijilnagjaaGreatDoor
open Go.RowKit

/-- the number behind the digits below d that were tried at c -/
def hexPart (n : Nat) (c : UInt8) (d : Nat) : Nat := match Off.hexI c with
  | some x => if x < d then n * 16 + x else n
  | none => n
def hexC (d : Nat) : UInt8 := Off.hexs.getD d 0

theorem hexI_at : ∀ d, d < 16 → ∀ c : UInt8, hexC d = c ↔ Off.hexI c = some d := by
  intro d hd
  have key : ∀ d : Fin 16, ∀ c : UInt8, hexC d = c ↔ Off.hexI c = some d.val := by
    intro d
    have k2 : ∀ c : UInt8, ∀ d : Fin 16, hexC d = c ↔ Off.hexI c = some d.val := Off.fin_byte (P := fun c => ∀ d : Fin 16, hexC d = c ↔ Off.hexI c = some d.val) (by decide +kernel)
    exact fun c => k2 c d
  exact key ⟨d, hd⟩
theorem hexI_lt (c : UInt8) : ∀ x, Off.hexI c = some x → x < 16 := by
  have key : ∀ c : UInt8, (Off.hexI c).all (fun x => decide (x < 16)) = true := Off.fin_byte (P := fun c => (Off.hexI c).all (fun x => decide (x < 16)) = true) (by decide +kernel)
  intro x hx
  have := key c
  rw [hx] at this
  simpa using this
theorem hexPart_zero (n : Nat) (c : UInt8) : hexPart n c 0 = n := by unfold hexPart; split <;> simp
theorem hexPart_end (n : Nat) (c : UInt8) : hexPart n c 16 = Off.hexStep n c := by
  unfold hexPart Off.hexStep
  cases hx : Off.hexI c with
  | none => rfl
  | some x => simp only; rw [if_pos (hexI_lt c x hx)]
theorem hexPart_hit {n : Nat} {c : UInt8} {d : Nat} (hd : d < 16) (h : hexC d = c) : hexPart n c (d + 1) = hexPart n c d * 16 + d := by
  have := (hexI_at d hd c).1 h
  unfold hexPart
  rw [this]
  simp
theorem hexPart_miss {n : Nat} {c : UInt8} {d : Nat} (hd : d < 16) (h : ¬ hexC d = c) : hexPart n c (d + 1) = hexPart n c d := by
  have h' : ¬ Off.hexI c = some d := fun e => h ((hexI_at d hd c).2 e)
  unfold hexPart
  split
  · rename_i x hx
    have : x ≠ d := fun e => h' (by rw [hx, e])
    by_cases h1 : x < d
    · rw [if_pos (by omega), if_pos h1]
    · rw [if_neg (by omega), if_neg h1]
  · rfl
theorem hexPart_le {n m : Nat} {c : UInt8} {d : Nat} (h : n ≤ m) : hexPart n c d ≤ m * 16 + 15 := by
  unfold hexPart
  split
  · rename_i x hx
    have := hexI_lt c x hx
    split <;> omega
  · omega
theorem hexC_at (d : Nat) (h : d < (ByteArray.mk #[48, 49, 50, 51, 52, 53, 54, 55, 56, 57, 97, 98, 99, 100, 101, 102]).size) :
    (ByteArray.mk #[48, 49, 50, 51, 52, 53, 54, 55, 56, 57, 97, 98, 99, 100, 101, 102])[d]'h = hexC d := by
  have hl : d < 16 := h
  have key : ∀ i : Fin 16, (#[48, 49, 50, 51, 52, 53, 54, 55, 56, 57, 97, 98, 99, 100, 101, 102] : Array UInt8)[i.val] = hexC i.val := by decide +kernel
  exact key ⟨d, hl⟩

theorem unplain_two (acc : List UInt8) (c a : UInt8) : Off.unplain acc [c, a] = Off.unplain (acc ++ [c]) [a] := by simp [Off.unplain]
theorem unplain_bare' (acc : List UInt8) (c a : UInt8) (r : List UInt8) (h : c ≠ 92) : Off.unplain acc (c :: a :: r) = Off.unplain (acc ++ [c]) (a :: r) := Off.unplain_bare acc c h (a :: r) (by simp)
theorem unplain_esc (acc : List UInt8) (a b : UInt8) (r : List UInt8) : Off.unplain acc (92 :: a :: b :: r) = Off.unplain (acc ++ [UInt8.ofNat (Off.hexStep (Off.hexStep 0 a) b)]) r := by
  rw [Off.unplain]; simp
theorem unplain_few (acc l : List UInt8) (h : l.length ≤ 1) : Off.unplain acc l = acc := by
  match l, h with
  | [], _ => simp [Off.unplain]
  | [x], _ => simp [Off.unplain]

theorem drop_two {s : List UInt8} {k : Nat} (h : k + 1 < s.length) : s.drop k = s[k] :: s[k + 1] :: s.drop (k + 2) := by
  rw [List.drop_eq_getElem_cons (by omega), List.drop_eq_getElem_cons h]

/-- the number behind the first characters of an escape -/
def hexTo (a b : UInt8) (j : Nat) : Nat := if j = 1 then 0 else if j = 2 then Off.hexStep 0 a else Off.hexStep (Off.hexStep 0 a) b
def hexAt (a b : UInt8) (j : Nat) : UInt8 := if j = 1 then a else b
theorem hexStep_le {n m : Nat} {c : UInt8} (h : n ≤ m) : Off.hexStep n c ≤ m * 16 + 15 := by rw [← hexPart_end]; exact hexPart_le h
theorem hexTo_le (a b : UInt8) (j : Nat) (h : j ≤ 2) (h0 : 1 ≤ j) : hexTo a b j ≤ 15 := by
  unfold hexTo
  rcases (show j = 1 ∨ j = 2 by omega) with rfl | rfl
  · simp
  · simp only [show ¬ (2 = 1) by decide, if_false, if_true]; exact hexStep_le (m := 0) (Nat.le_refl _)
theorem hexTo_end (a b : UInt8) : hexTo a b 3 ≤ 255 := by
  unfold hexTo
  rw [if_neg (by decide), if_neg (by decide)]
  exact hexStep_le (m := 15) (hexStep_le (m := 0) (Nat.le_refl _))
theorem hexTo_step (a b : UInt8) (j : Nat) (h : j ≤ 2) (h0 : 1 ≤ j) : hexPart (hexTo a b j) (hexAt a b j) 16 = hexTo a b (j + 1) := by
  rw [hexPart_end]
  unfold hexTo hexAt
  rcases (show j = 1 ∨ j = 2 by omega) with rfl | rfl <;> simp

set_option maxRecDepth 100000 in
set_option maxHeartbeats 2000000 in
theorem refPlain_any (s : List UInt8) (w : World) (hs : s.length ≤ 1000000) :
    Calls Tryz.prog 111 #[.string ⟨s.toArray⟩] w fun e w' => e = .returned (.string ⟨(Off.refPlain s).toArray⟩) ∧ Keeps No w w' := by
  obtain ⟨i0, hi, hz0, hz1, hz2⟩ := info_parts infoByte
  have kw : Keeps No w (w.alloc (.cells #[] 5)) := (Keeps.refl _ _).alloc _
  have hown : (w.alloc (.cells #[] 5)).ownsRow w.heap.size 5 1 (.slice (some ⟨w.heap.size, 0, none⟩) 0 0) 0 (Lib.byteCells []) :=
    ⟨rfl, .inr ⟨w.heap.size, 0, #[], rfl, Nat.le_refl _, heap_alloc_new w _, by omega, by decide, rfl, rfl⟩⟩
  have hR : Off.refPlain s = Off.unplain [] (s.drop 1) := by unfold Off.refPlain; rw [List.drop_one]
  have HR := Lib.hid hR
  clear hR
  go_enter Tryz.func111, Tryz.ntmps111
  go_wp2
  generalize hw1 : w.alloc (.cells #[] 5) = w1 at kw hown ⊢
  clear hw1
  go_loopw [4, 5] (fun v i wr => ∃ (k : Nat) (acc : List UInt8), 1 ≤ k ∧ k ≤ s.length + 1 ∧ i = .int .i64 k ∧ wr.ownsRow w.heap.size 5 1 v acc.length (Lib.byteCells acc) ∧
      Keeps No w wr ∧ Hid (Off.refPlain s = Off.unplain acc (s.drop k)) ∧ acc.length ≤ k) (fun _ i _ => s.length + 1 - (intOf i).toNat)
  case atStart => exact ⟨1, [], Nat.le_refl _, by omega, rfl, hown, kw, HR, by simp⟩
  case round =>
    obtain ⟨k, acc, hk1, hk, rfl, hownr, kr, hT, hac⟩ := hrel
    by_cases hlt : k + 1 < s.length
    · have hlt1 : (k : Int) < (s.length : Int) - 1 := by omega
      have hlt2 : k < s.length := by omega
      have hT' := hT.out
      rw [drop_two hlt] at hT'
      obtain ⟨c, hcx⟩ : ∃ c, c = s[k]'hlt2 := ⟨_, rfl⟩
      have hx : ∀ h, (ByteArray.mk s.toArray)[k]'h = c := fun _ => hcx.symm
      rw [← hcx] at hT'
      clear hcx hT
      by_cases h92 : c = 92
      · subst h92
        by_cases hlt3 : k + 2 < s.length
        · have hlt4 : ¬ (s.length : Int) ≤ (k : Int) + 2 := by omega
          rw [List.drop_eq_getElem_cons hlt3, unplain_esc] at hT'
          obtain ⟨a, hax⟩ : ∃ a, a = s[k + 1]'hlt := ⟨_, rfl⟩
          obtain ⟨b, hbx⟩ : ∃ b, b = s[k + 2]'hlt3 := ⟨_, rfl⟩
          have ha : ∀ j, 1 ≤ j → j ≤ 2 → ∀ h, (ByteArray.mk s.toArray)[k + j]'h = hexAt a b j := by
            intro j h1 h2 h
            rcases (show j = 1 ∨ j = 2 by omega) with rfl | rfl
            · exact hax.symm
            · exact hbx.symm
          rw [← hax, ← hbx] at hT'
          have hT2 : Hid (Off.refPlain s = Off.unplain (acc ++ [UInt8.ofNat (hexTo a b 3)]) (s.drop (k + 3))) := hT'
          clear hT' hax hbx
          go_wp2
          go_loopw [6, 7] (fun n j wq => ∃ J : Nat, 1 ≤ J ∧ J ≤ 3 ∧ j = .int .i64 J ∧ n = .int .i64 (hexTo a b J : Nat) ∧ wq.ownsRow w.heap.size 5 1 u4 acc.length (Lib.byteCells acc) ∧ Keeps No w wq) (fun _ j _ => 3 - (intOf j).toNat)
          case atStart => exact ⟨1, by omega, by omega, rfl, rfl, hownr, kr⟩
          case round =>
            clear hownr kr
            obtain ⟨J, hJ1, hJ3, rfl, rfl, hownr, kr⟩ := hrel
            by_cases hJ : J ≤ 2
            · have hJi : (J : Int) ≤ 2 := by omega
              have hn0 := hexTo_le a b J hJ hJ1
              have hns := Lib.hid (hexTo_step a b J hJ hJ1)
              have hc := ha J hJ1 hJ
              clear ha
              generalize hexTo a b J = n0 at hn0 hns ⊢
              generalize hexAt a b J = c at hc hns
              go_wp2
              go_loopw [6, 8] (fun n d wq => ∃ D : Nat, D ≤ 16 ∧ d = .int .i64 D ∧ n = .int .i64 (hexPart n0 c D : Nat) ∧ wq.ownsRow w.heap.size 5 1 u4 acc.length (Lib.byteCells acc) ∧ Keeps No w wq) (fun _ d _ => 16 - (intOf d).toNat)
              case atStart => exact ⟨0, by omega, rfl, by rw [hexPart_zero], hownr, kr⟩
              case round =>
                clear hownr kr
                obtain ⟨D, hD, rfl, rfl, hownr, kr⟩ := hrel
                by_cases hDl : D < 16
                · have hDi : (D : Int) < 16 := by omega
                  have hle := hexPart_le (c := c) (d := D) hn0
                  have hhx := fun h => hexC_at D h
                  have wkj : IntKind.i64.wrap ((k : Int) + (J : Int)) = (k : Int) + (J : Int) := IntWalk.i64_in _ (by omega)
                  have hkj : (k : Int) + (J : Int) < (s.length : Int) := by omega
                  have hkj0 : (0 : Int) ≤ (k : Int) + (J : Int) := by omega
                  have hcI : ∀ h, (ByteArray.mk s.toArray)[((k : Int) + (J : Int)).toNat]'h = c := by
                    have e : ((k : Int) + (J : Int)).toNat = k + J := by omega
                    intro h
                    have h' : k + J < (ByteArray.mk s.toArray).size := by rw [← e]; exact h
                    rw [← hc h']
                    congr 1
                  by_cases he : hexC D = c
                  · have hp := Lib.hid (hexPart_hit (n := n0) hDl he)
                    have hb : (((hexC D).toNat : Int) == (c.toNat : Int)) = true := by rw [he]; simp
                    clear he hns
                    generalize hexPart n0 c D = n1 at hle hp ⊢
                    go_wp2
                    go_region
                    all_goals
                      have kd : Keeps No w wr.drew := kr.drew
                      have hod : wr.drew.ownsRow w.heap.size 5 1 u4 acc.length (Lib.byteCells acc) := hownr
                      go_wp2
                      go_roundw
                      case rel => exact ⟨D + 1, by omega, by go_num, by rw [hp.out]; go_num, hod, kd⟩
                      case measure => simp [intOf]; omega
                  · have hp := Lib.hid (hexPart_miss (n := n0) hDl he)
                    have hb : (((hexC D).toNat : Int) == (c.toNat : Int)) = false := by
                      rw [beq_eq_false_iff_ne]; intro e; exact he (UInt8.toNat_inj.1 (by omega))
                    clear he hns
                    generalize hexPart n0 c D = n1 at hle hp ⊢
                    go_wp2
                    go_region
                    all_goals
                      have kd : Keeps No w wr.drew := kr.drew
                      have hod : wr.drew.ownsRow w.heap.size 5 1 u4 acc.length (Lib.byteCells acc) := hownr
                      go_wp2
                      go_roundw
                      case rel => exact ⟨D + 1, by omega, by go_num, by rw [hp.out], hod, kd⟩
                      case measure => simp [intOf]; omega
                · obtain rfl : D = 16 := by omega
                  have hDi : ¬ ((16 : Nat) : Int) < 16 := by omega
                  rw [hns.out]
                  clear hns
                  go_wp2
                  go_roundw
                  case rel => exact ⟨J + 1, by omega, by omega, by go_num, rfl, hownr, kr⟩
                  case measure => simp [intOf]; omega
            · obtain rfl : J = 3 := by omega
              have hle := hexTo_end a b
              clear ha
              generalize hexTo a b 3 = N at hle hT2 ⊢
              have wU : IntKind.u8.wrap (N : Int) = (N : Int) := IntWalk.u8_in _ (by omega)
              have hNb : ((UInt8.ofNat N).toNat : Int) = (N : Int) := by simp; omega
              go_wp2_with (at_builtin; refine wpList_append_own _ rfl _ _ 89 rfl w.heap.size 5 i0 (.int .u8 0) 1 1 Tryz.underlying89 hi hz0 hz1 hz2 rfl (by decide) _ _ _ rfl (hownr.alloc _) _ 1 1 [.int .u8 N] rfl rfl (one_byte_cell _ _) ?e2 ?e3 ?e4 ?e5 ?_)
              case e2 => intro u hu; simp at hu; subst hu; rfl
              case e3 => unfold maxLen; omega
              case e4 => omega
              case e5 => have := kr.size; simp; omega
              intro v' w2 hown' hg _
              have kg : Keeps No w w2 := (kr.alloc _).grown hg fun j hj => (hownr.lt j hj).1
              have ho : w2.ownsRow w.heap.size 5 1 v' (acc ++ [UInt8.ofNat N]).length (Lib.byteCells (acc ++ [UInt8.ofNat N])) := by
                rw [← byteCells_snoc, hNb, List.length_append]; exact hown'
              clear hNb
              go_wp2
              go_roundw
              case rel => exact ⟨k + 3, acc ++ [UInt8.ofNat N], by omega, by omega, by go_num, ho, kg, hT2, by simp; omega⟩
              case measure => simp [intOf]; omega
        · have hx2 := hx
          have n92 : ((UInt8.toNat 92 : Int) != 92) = false := by decide
          rw [show s.drop (k + 2) = [] from List.drop_eq_nil_of_le (by omega), unplain_two, show [s[k + 1]] = s.drop (k + 1) by rw [List.drop_eq_getElem_cons hlt, List.drop_eq_nil_of_le (by omega)]] at hT'
          have hge : (s.length : Int) ≤ (k : Int) + 2 := by omega
          have HN := Lib.hid hT'
          clear hT'
          go_wp2_with (at_builtin; refine wpList_append_own _ rfl _ _ 89 rfl w.heap.size 5 i0 (.int .u8 0) 1 1 Tryz.underlying89 hi hz0 hz1 hz2 rfl (by decide) _ _ _ rfl (hownr.alloc _) _ 1 1 [.int .u8 92] rfl rfl (one_byte_cell _ _) ?c2 ?c3 ?c4 ?c5 ?_)
          case c2 => intro u hu; simp at hu; subst hu; rfl
          case c3 => unfold maxLen; omega
          case c4 => omega
          case c5 => have := kr.size; simp; omega
          intro v' w2 hown' hg _
          have kg : Keeps No w w2 := (kr.alloc _).grown hg fun j hj => (hownr.lt j hj).1
          have ho : w2.ownsRow w.heap.size 5 1 v' (acc ++ [92]).length (Lib.byteCells (acc ++ [92])) := by simpa [Lib.byteCells] using hown'
          go_wp2
          go_roundw
          case rel => exact ⟨k + 1, acc ++ [92], by omega, by omega, by go_num, ho, kg, HN, by simp; omega⟩
          case measure => simp [intOf]; omega
      · rw [unplain_bare' _ _ _ _ h92, ← List.drop_eq_getElem_cons hlt] at hT'
        have HN := Lib.hid hT'
        have n92 : ((c.toNat : Int) != 92) = true := by
          rw [bne_iff_ne]; intro e; exact h92 (UInt8.toNat_inj.1 (by rw [show (92 : UInt8).toNat = 92 from rfl]; omega))
        clear hT'
        go_wp2_with (at_builtin; refine wpList_append_own _ rfl _ _ 89 rfl w.heap.size 5 i0 (.int .u8 0) 1 1 Tryz.underlying89 hi hz0 hz1 hz2 rfl (by decide) _ _ _ rfl (hownr.alloc _) _ 1 1 [.int .u8 c.toNat] rfl rfl (one_byte_cell _ _) ?c2 ?c3 ?c4 ?c5 ?_)
        case c2 => intro u hu; simp at hu; subst hu; rfl
        case c3 => unfold maxLen; omega
        case c4 => omega
        case c5 => have := kr.size; simp; omega
        intro v' w2 hown' hg _
        have kg : Keeps No w w2 := (kr.alloc _).grown hg fun j hj => (hownr.lt j hj).1
        have ho : w2.ownsRow w.heap.size 5 1 v' (acc ++ [c]).length (Lib.byteCells (acc ++ [c])) := by simpa [Lib.byteCells] using hown'
        go_wp2
        go_roundw
        case rel => exact ⟨k + 1, acc ++ [c], by omega, by omega, by go_num, ho, kg, HN, by simp; omega⟩
        case measure => simp [intOf]; omega
    · have hfin : Hid (Off.refPlain s = acc) := by
        show _ = _
        rw [hT.out, unplain_few _ _ (by rw [List.length_drop]; omega)]
      have hge : ¬ (k : Int) < (s.length : Int) - 1 := by omega
      have hconv := conv_own hownr
      clear hT
      go_wp2
      go_ret
      exact ⟨by rw [hfin.out]; rfl, kr⟩

end Go.Proofs.YtkpenijilnagjaaGreatDoor
