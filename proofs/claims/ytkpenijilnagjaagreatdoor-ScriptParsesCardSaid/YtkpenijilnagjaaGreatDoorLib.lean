/- The library's contracts in the words of the script's plain model. -/
import Derived.Test.YtkpenijilnagjaaGreatDoorBase
import Derived.Test.YtkpenijilnagjaaGreatDoorShelf
import Derived.Test.YtkpenijilnagjaaGreatDoorScrEv
import Derived.Lib.AtoiAllCases
namespace Go.Proofs.YtkpenijilnagjaaGreatDoor
open Go.RowKit

theorem index_one (c : UInt8) : ∀ s : List UInt8, Lib.index s [c] = Lib.indexByte s c
  | [] => rfl
  | b :: l => by
    unfold Lib.index Lib.indexByte
    rw [index_one c l]
    by_cases h : b = c
    · subst h; simp
    · have h' : ¬ c = b := fun e => h e.symm
      simp [h, h']

theorem cut_one (c : UInt8) : ∀ s : List UInt8, (Lib.cut s [c]).1 = Off.upto c s ∧ (Lib.cut s [c]).2.1 = Off.behind c s := by
  have key : ∀ s : List UInt8, (Lib.indexByte s c = -1 ∧ Off.upto c s = s ∧ Off.behind c s = []) ∨
      (∃ k : Nat, Lib.indexByte s c = k ∧ Off.upto c s = s.take k ∧ Off.behind c s = s.drop (k + 1)) := by
    intro s
    induction s with
    | nil => exact .inl ⟨rfl, rfl, rfl⟩
    | cons b l ih =>
      unfold Lib.indexByte Off.upto Off.behind
      by_cases h : b = c
      · subst h
        exact .inr ⟨0, by simp, by simp, by simp⟩
      · rcases ih with ⟨h1, h2, h3⟩ | ⟨k, h1, h2, h3⟩
        · exact .inl ⟨by simp [h, h1], by simp [h, h2], by simp [h, h3]⟩
        · refine .inr ⟨k + 1, ?_, by simp [h, h2], by simp [h, h3]⟩
          simp only [beq_iff_eq, h, if_false, h1]
          rw [if_neg (by omega)]
          omega
  intro s
  unfold Lib.cut
  rw [index_one]
  rcases key s with ⟨h1, h2, h3⟩ | ⟨k, h1, h2, h3⟩
  · rw [h1, if_neg (by decide), h2, h3]; exact ⟨rfl, rfl⟩
  · rw [h1, if_pos (by omega), h2, h3]; simp

theorem size_mk (s : List UInt8) : (ByteArray.mk s.toArray).size = s.length := by simp [ByteArray.size]

theorem lib_cut (c : UInt8) (s : List UInt8) (w : World) (hE : Env w) (hs : s.length < 4294967281) :
    Calls Tryz.prog 154 #[.string ⟨s.toArray⟩, .string ⟨#[c]⟩] w fun e w' =>
      (∃ b, e = .returned (.tuple #[.string ⟨(Off.upto c s).toArray⟩, .string ⟨(Off.behind c s).toArray⟩, .bool b])) ∧ Keeps No w w' := by
  obtain ⟨m, hm⟩ := hE.maxLen
  refine (Tryz.strings_Cut ⟨s.toArray⟩ ⟨#[c]⟩ m w (by rw [size_mk]; exact hs) hm).mono ?_
  rintro e w' ⟨rfl, n, rfl⟩
  obtain ⟨h1, h2⟩ := cut_one c s
  have e1 : (ByteArray.mk s.toArray).data.toList = s := by simp
  refine ⟨⟨(Lib.cut s [c]).2.2, ?_⟩, (Keeps.refl _ _).drewN n⟩
  rw [e1]
  show _ = Ending.returned (.tuple #[.string ⟨(Off.upto c s).toArray⟩, .string ⟨(Off.behind c s).toArray⟩, _])
  rw [← h1, ← h2]

theorem keeps_grow {S : Nat → Prop} (w : World) (k : Nat) (os : Array Obj) : Keeps S w (Sort.grow (w.drewN k) os) := by
  refine ⟨rfl, rfl, rfl, by simp [Sort.grow, World.drewN], fun j hj _ => ?_⟩
  simp [Sort.grow, World.drewN, Array.getElem?_append, hj]

theorem lib_itoa (n : Int) (w : World) (hE : Env w) (h : Off.I64 n) :
    Calls Tryz.prog 117 #[.int .i64 n] w fun e w' => e = .returned (.string ⟨(Lib.itoa n).toArray⟩) ∧ Keeps No w w' := by
  refine (Tryz.strconv_Itoa n h.1 h.2 w hE.pow).mono ?_
  rintro e w' ⟨rfl, k, os, rfl⟩
  exact ⟨rfl, keeps_grow w k os⟩

/-- what Atoi answers: a number and no error; or an error -/
def AtoiAns (s : List UInt8) (e : Ending) : Prop :=
  ∃ n ev, e = .returned (.tuple #[.int .i64 n, ev]) ∧
    ((Off.atoiV s = some n ∧ ev = .nilIface ∧ Off.I64 n) ∨ (Off.atoiV s = none ∧ ∃ t p, ev = .iface t (.pointer (some p))))

theorem keeps_bytes {S : Nat → Prop} (w : World) (e : TypeId) (t : ByteArray) : Keeps S w (Lib.bytesWorld w e t) := by
  have h := Lib.below_freeze (B := w.heap.size) (((Below.refl _ w).drew).alloc (by simp) (.cells (Lib.bytesCells w e t) e)) (p := ⟨w.heap.size, (Lib.bytesCells w e t).size, none⟩) (Nat.le_refl _) 1
  exact Keeps.of_below h

theorem lib_atoi (s : List UInt8) (w : World) (hE : Env w) (hs : s.length < 4294967281) :
    Calls Tryz.prog 155 #[.string ⟨s.toArray⟩] w fun e w' => AtoiAns s e ∧ Keeps No w w' := by
  have e1 : (ByteArray.mk s.toArray).data.toList = s := by simp
  rcases h : Lib.atoiAll s with v | _ | _
  · refine (Tryz.strconv_Atoi_ok ⟨s.toArray⟩ (by rw [size_mk]; omega) v (by rw [e1]; exact h) w).mono ?_
    rintro e w' ⟨rfl, hw⟩
    refine ⟨⟨v, .nilIface, rfl, .inl ⟨by unfold Off.atoiV; rw [h], rfl, Lib.atoiAll_bounds h⟩⟩, ?_⟩
    rcases hw with rfl | ⟨t, rfl⟩
    · exact Keeps.refl _ _
    · exact keeps_bytes w _ t
  · obtain ⟨tp, p, hv⟩ := hE.errS
    refine (show Calls Tryz.prog 155 #[.string ⟨s.toArray⟩] w _ from Any.strconv_Atoi_syntax_var Tryz.laysC172 ⟨s.toArray⟩ (by rw [size_mk]; omega) (by rw [e1]; exact h) tp p w hv).mono ?_
    rintro e w' ⟨N, rfl, _, _, hb⟩
    exact ⟨⟨0, _, rfl, .inr ⟨by unfold Off.atoiV; rw [h], _, _, rfl⟩⟩, Keeps.of_below hb⟩
  · obtain ⟨tp, p, hv⟩ := hE.errR
    refine (Tryz.strconv_Atoi_range_var ⟨s.toArray⟩ (by rw [size_mk]; omega) (by rw [e1]; exact h) tp p w hv).mono ?_
    rintro e w' ⟨N, rfl, _, _, hb⟩
    exact ⟨⟨_, _, rfl, .inr ⟨by unfold Off.atoiV; rw [h], _, _, rfl⟩⟩, Keeps.of_below hb⟩

theorem lib_indexByte (s : List UInt8) (c : Int) (w : World) :
    Calls Tryz.prog 212 #[.string ⟨s.toArray⟩, .int .u8 c] w fun e w' => e = .returned (.int .i64 (Lib.indexByte s c.toNat.toUInt8)) ∧ w = w' := by
  refine (Tryz.strings_IndexByte ⟨s.toArray⟩ c w).mono ?_
  rintro e w' ⟨rfl, rfl⟩
  have e1 : (ByteArray.mk s.toArray).data.toList = s := by simp
  rw [e1]
  exact ⟨rfl, rfl⟩

theorem lib_hasPrefix (s p : List UInt8) (w : World) :
    Calls Tryz.prog 186 #[.string ⟨s.toArray⟩, .string ⟨p.toArray⟩] w fun e w' => e = .returned (.bool (Lib.hasPrefix s p)) ∧ w = w' := by
  refine (Tryz.strings_HasPrefix ⟨s.toArray⟩ ⟨p.toArray⟩ w).mono ?_
  rintro e w' ⟨rfl, rfl⟩
  have e1 : (ByteArray.mk s.toArray).data.toList = s := by simp
  have e2 : (ByteArray.mk p.toArray).data.toList = p := by simp
  rw [e1, e2]
  exact ⟨rfl, rfl⟩

end Go.Proofs.YtkpenijilnagjaaGreatDoor
