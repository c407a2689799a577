/- offshootref25.quoted. -/
import Derived.Test.YtkpenijilnagjaaGreatDoorRefB
namespace Go.Proofs.YtkpenijilnagjaaGreatDoor
open Go.RowKit

theorem mod_nat (c : UInt8) : ((c.toNat : Int) % 16) = (loN c : Int) := by
  have key : ∀ c : UInt8, c.toNat % 16 = (c &&& 15).toNat := Off.fin_byte (P := fun c => c.toNat % 16 = (c &&& 15).toNat) (by decide +kernel)
  unfold loN
  rw [← key]; omega

set_option maxRecDepth 100000 in
set_option maxHeartbeats 2000000 in
theorem refQuoted_any (s : List UInt8) (w : World) (hs : s.length ≤ 1000000) :
    Calls Tryz.prog 116 #[.string ⟨s.toArray⟩] w fun e w' => e = .returned (.string ⟨(Off.quoted s).toArray⟩) ∧ Keeps No w w' := by
  obtain ⟨i0, hi, hz0, hz1, hz2⟩ := info_parts infoByte
  have kw : Keeps No w (w.alloc (.cells #[.int .u8 34] 5)) := (Keeps.refl _ _).alloc _
  have hown : (w.alloc (.cells #[.int .u8 34] 5)).ownsRow w.heap.size 5 1 (.slice (some ⟨w.heap.size, 0, none⟩) 1 1) 1 (Lib.byteCells [34]) :=
    ⟨rfl, .inr ⟨w.heap.size, 1, #[.int .u8 34], rfl, Nat.le_refl _, heap_alloc_new w _, by omega, by decide, rfl, rfl⟩⟩
  go_enter Tryz.func116, Tryz.ntmps116
  go_wp2
  generalize hw1 : w.alloc (.cells #[.int .u8 34] 5) = w1 at kw hown ⊢
  clear hw1
  go_loopw [4, 5] (fun v i wr => ∃ k : Nat, k ≤ s.length ∧ i = .int .i64 k ∧ wr.ownsRow w.heap.size 5 1 v (34 :: (s.take k).flatMap Off.quoteByte).length (Lib.byteCells (34 :: (s.take k).flatMap Off.quoteByte)) ∧
      Keeps No w wr) (fun _ i _ => s.length - (intOf i).toNat)
  case atStart => exact ⟨0, Nat.zero_le _, rfl, hown, kw⟩
  case round =>
    obtain ⟨k, hk, rfl, hownr, kr⟩ := hrel
    by_cases hlt : k < s.length
    · have hft := Lib.hid (flat_take s k hlt)
      have hql := quote_len (s.take k)
      have hlen : (34 :: (s.take k).flatMap Off.quoteByte).length ≤ 3000001 := by
        simp only [List.length_cons]; have := List.length_take_le k s; omega
      have hap : ∀ news : List UInt8, Off.quoteByte s[k] = news → ∀ v' w2, World.ownsRow w2 w.heap.size 5 1 v' ((34 :: (s.take k).flatMap Off.quoteByte).length + news.length) (Lib.byteCells (34 :: (s.take k).flatMap Off.quoteByte) ++ Lib.byteCells news) →
          w2.ownsRow w.heap.size 5 1 v' (34 :: (s.take (k + 1)).flatMap Off.quoteByte).length (Lib.byteCells (34 :: (s.take (k + 1)).flatMap Off.quoteByte)) := by
        intro news hn v' w2 h
        rw [hft.out, hn]
        simpa [Lib.byteCells, Nat.add_assoc, Nat.add_comm, Nat.add_left_comm] using h
      generalize hacc : (34 :: (s.take k).flatMap Off.quoteByte) = acc at hownr hlen hap
      clear hacc hft
      obtain ⟨c, hcx⟩ : ∃ c, c = s[k]'hlt := ⟨_, rfl⟩
      have hx : ∀ h, (ByteArray.mk s.toArray)[k]'h = c := fun _ => hcx.symm
      rw [← hcx] at hap
      clear hcx
      by_cases hp : Off.plainByte c = true
      · have hq : Off.quoteByte c = [c] := if_pos hp
        unfold Off.plainByte at hp
        simp only [Bool.and_eq_true, decide_eq_true_eq] at hp
        obtain ⟨⟨⟨p1, p2⟩, p3⟩, p4⟩ := hp
        have q1 : (32 : Int) ≤ c.toNat := by have := UInt8.le_iff_toNat_le.1 p1; have e : (32 : UInt8).toNat = 32 := rfl; omega
        have q2 : (c.toNat : Int) ≤ 126 := by have := UInt8.le_iff_toNat_le.1 p2; have e : (126 : UInt8).toNat = 126 := rfl; omega
        have q3 : ((c.toNat : Int) == 34) = false := by rw [beq_eq_false_iff_ne]; intro e; exact p3 (UInt8.toNat_inj.1 (by rw [show (34 : UInt8).toNat = 34 from rfl]; omega))
        have q4 : ((c.toNat : Int) == 92) = false := by rw [beq_eq_false_iff_ne]; intro e; exact p4 (UInt8.toNat_inj.1 (by rw [show (92 : UInt8).toNat = 92 from rfl]; omega))
        clear p1 p2 p3 p4
        have hq' := Lib.hid hq
        clear hq
        go_wp2_with (at_builtin; refine wpList_append_own _ rfl _ _ 89 rfl w.heap.size 5 i0 (.int .u8 0) 1 1 Tryz.underlying89 hi hz0 hz1 hz2 rfl (by decide) _ _ _ rfl (hownr.alloc _) _ 1 1 [.int .u8 c.toNat] rfl rfl (one_byte_cell _ _) ?c2 ?c3 ?c4 ?c5 ?_)
        case c2 => intro u hu; simp at hu; subst hu; rfl
        case c3 => unfold maxLen; omega
        case c4 => omega
        case c5 => have := kr.size; simp; omega
        intro v' w2 hown' hg _
        have kg : Keeps No w w2 := (kr.alloc _).grown hg fun j hj => (hownr.lt j hj).1
        have ho := hap [c] hq'.out v' w2 (by simpa [Lib.byteCells] using hown')
        go_wp2
        go_roundw
        case rel => exact ⟨k + 1, by omega, by go_num, ho, kg⟩
        case measure => simp [intOf]; omega
      · have hq : Off.quoteByte c = [92, Off.hexD (c >>> 4), Off.hexD (c &&& 15)] := if_neg hp
        have hq' := Lib.hid hq
        clear hq
        have hcase : ((c.toNat : Int) < 32) ∨ ((32 : Int) ≤ c.toNat ∧ (126 : Int) < c.toNat) ∨ ((32 : Int) ≤ c.toNat ∧ (c.toNat : Int) ≤ 126 ∧ ((c.toNat : Int) == 34) = true) ∨
            ((32 : Int) ≤ c.toNat ∧ (c.toNat : Int) ≤ 126 ∧ ((c.toNat : Int) == 34) = false ∧ ((c.toNat : Int) == 92) = true) := by
          unfold Off.plainByte at hp
          simp only [Bool.and_eq_true, decide_eq_true_eq] at hp
          by_cases e1 : (c.toNat : Int) < 32
          · exact .inl e1
          by_cases e2 : (126 : Int) < c.toNat
          · exact .inr (.inl ⟨by omega, e2⟩)
          by_cases e3 : c = 34
          · exact .inr (.inr (.inl ⟨by omega, by omega, by rw [e3]; rfl⟩))
          by_cases e4 : c = 92
          · exact .inr (.inr (.inr ⟨by omega, by omega, by rw [e4]; rfl, by rw [e4]; rfl⟩))
          exact absurd ⟨⟨⟨UInt8.le_iff_toNat_le.2 (by show 32 ≤ c.toNat; omega), UInt8.le_iff_toNat_le.2 (by show c.toNat ≤ 126; omega)⟩, e3⟩, e4⟩ hp
        clear hp
        have e1 : ((c.toNat : Int) / 16) = (hiN c : Int) := shr_nat c
        have e2 : ((c.toNat : Int) % 16) = (loN c : Int) := mod_nat c
        have e3 : (c.toNat : Int).tdiv 16 = (hiN c : Int) := by rw [← e1]; exact Int.tdiv_eq_ediv_of_nonneg (by omega)
        have e4 : (c.toNat : Int).tmod 16 = (loN c : Int) := by rw [← e2]; exact Int.tmod_eq_emod_of_nonneg (by omega)
        have l1 : (hiN c : Int) < 16 := shr_lt c
        have l2 : (loN c : Int) < 16 := and_lt c
        have e5 : IntKind.u8.wrap (hiN c : Int) = (hiN c : Int) := IntWalk.u8_in _ (by omega)
        have l3 : hiN c < 16 := by omega
        have l4 : loN c < 16 := by omega
        have g1 : ∀ h, (ByteArray.mk #[48, 49, 50, 51, 52, 53, 54, 55, 56, 57, 97, 98, 99, 100, 101, 102])[hiN c]'h = Off.hexD (c >>> 4) := hex_at (c >>> 4)
        have g2 : ∀ h, (ByteArray.mk #[48, 49, 50, 51, 52, 53, 54, 55, 56, 57, 97, 98, 99, 100, 101, 102])[loN c]'h = Off.hexD (c &&& 15) := hex_at (c &&& 15)
        rcases hcase with h1 | ⟨h1, h2⟩ | ⟨h1, h2, h3⟩ | ⟨h1, h2, h3, h4⟩
        all_goals
          go_wp2
          go_region_law ((refine step_append_own rfl _ _ 89 rfl w.heap.size 5 i0 (.int .u8 0) 1 1 Tryz.underlying89 hi hz0 hz1 hz2 rfl (by decide) _ _ _ rfl (hownr.alloc _) _ 3 3 [.int .u8 92, .int .u8 (Off.hexD (c >>> 4)).toNat, .int .u8 (Off.hexD (c &&& 15)).toNat] rfl rfl (cells3 _ _ _ _) (by intro u hu; simp at hu; rcases hu with rfl | rfl | rfl <;> rfl) (by unfold maxLen; omega) (by omega) (by have := kr.size; simp; omega) ?_; intro v' w2 hown' hg))
          all_goals
            have kg : Keeps No w w2 := ((kr.alloc _).drew).grown hg fun j hj => (hownr.lt j hj).1
            have ho := hap _ hq'.out v' w2 (by simpa [Lib.byteCells] using hown')
            go_wp2
            go_roundw
            case rel => exact ⟨k + 1, by omega, by go_num, ho, kg⟩
            case measure => simp [intOf]; omega
    · obtain rfl : k = s.length := by omega
      have ht : s.take s.length = s := List.take_length
      rw [ht] at hownr
      have hql := quote_len s
      have hlen : (34 :: s.flatMap Off.quoteByte).length ≤ 3000001 := by simp only [List.length_cons]; omega
      clear ht
      have hQ : Off.quoted s = (34 :: s.flatMap Off.quoteByte) ++ [34] := rfl
      have hQ' := Lib.hid hQ
      clear hQ
      generalize (34 :: s.flatMap Off.quoteByte) = acc at hownr hlen hQ'
      go_wp2_with (at_builtin; refine wpList_append_own _ rfl _ _ 89 rfl w.heap.size 5 i0 (.int .u8 0) 1 1 Tryz.underlying89 hi hz0 hz1 hz2 rfl (by decide) _ _ _ rfl (hownr.alloc _) _ 1 1 [.int .u8 34] rfl rfl (one_byte_cell _ _) ?c2 ?c3 ?c4 ?c5 ?_)
      case c2 => intro u hu; simp at hu; subst hu; rfl
      case c3 => unfold maxLen; omega
      case c4 => omega
      case c5 => have := kr.size; simp; omega
      intro v' w2 hown' hg _
      have kg : Keeps No w w2 := (kr.alloc _).grown hg fun j hj => (hownr.lt j hj).1
      have ho : w2.ownsRow w.heap.size 5 1 v' (acc ++ [34]).length (Lib.byteCells (acc ++ [34])) := by
        simpa [Lib.byteCells] using hown'
      have hconv := conv_own ho
      go_wp2
      go_ret
      exact ⟨by rw [hQ'.out]; rfl, kg⟩

end Go.Proofs.YtkpenijilnagjaaGreatDoor
