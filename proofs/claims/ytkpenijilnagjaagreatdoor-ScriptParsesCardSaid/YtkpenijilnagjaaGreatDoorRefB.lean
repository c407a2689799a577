/- offshootref25: digits, number, names, value, each by its contract. -/
import Derived.Test.YtkpenijilnagjaaGreatDoorRefA
import Derived.Test.YtkpenijilnagjaaGreatDoorShowBase
namespace Go.Proofs.YtkpenijilnagjaaGreatDoor
open Go.RowKit

theorem dec_cons (t : List UInt8) (c : UInt8) : ByteArray.mk #[c] ++ ByteArray.mk t.toArray = ByteArray.mk (c :: t).toArray := by
  rw [bytes_app]; congr 1; apply Array.ext'; simp

set_option maxRecDepth 100000 in
set_option maxHeartbeats 1000000 in
/-- offshootref25.digits -/
theorem refDigits_any (u : Nat) (hu : u ≤ 9223372036854775808) (w : World) :
    Calls Tryz.prog 113 #[.int .u64 u] w fun e w' => e = .returned (.string ⟨(Lib.decDigits u).toArray⟩) ∧ Keeps No w w' := by
  have hl0 := dec_len u hu
  go_enter Tryz.func113, Tryz.ntmps113
  go_wp2
  go_loop [0, 3] (fun a s => ∃ (v : Nat) (t : List UInt8), v ≤ 9223372036854775808 ∧ a = .int .u64 v ∧ s = .string ⟨t.toArray⟩ ∧ Hid (Lib.decDigits u = Lib.decDigits v ++ t)) (fun a _ => (intOf a).toNat)
  case atStart => exact ⟨u, [], hu, rfl, rfl, by show _ = _; simp⟩
  case round =>
    obtain ⟨v, t, hv, rfl, rfl, hT⟩ := hrel
    have hm := Nat.mod_lt v (show 0 < 10 by decide)
    have hsl := fun W => digit_run .u64 .u64 (v % 10) hm ((v : Int) % 10) ((v : Int) % 10 + 1) (by omega) (by omega) W
    have g0 : (0 : Int) ≤ (v : Int) % 10 := by omega
    have g1 : (v : Int) % 10 < 10 := by omega
    have w1 : IntKind.u64.wrap ((v : Int) % 10 + 1) = (v : Int) % 10 + 1 := IntWalk.u64_in _ (by omega)
    have htl : t.length ≤ 20 := by
      have := congrArg List.length hT.out
      rw [List.length_append] at this; omega
    have m1 : ¬ 9223372036854775807 < 1 + t.length := by omega
    have hcat := dec_cons t (dgt (v % 10))
    by_cases hs : v < 10
    · have hfin : Hid (Lib.decDigits u = dgt (v % 10) :: t) := by
        show _ = _
        rw [hT.out, Lib.decDigits_one hs, Nat.mod_eq_of_lt hs]; rfl
      have hz : (((v : Int) / 10) == 0) = true := by simp; omega
      clear hT
      go_wp2
      go_ret
      exact ⟨by rw [hfin.out]; rfl, Keeps.refl _ _⟩
    · have hstep : Hid (Lib.decDigits u = Lib.decDigits (v / 10) ++ (dgt (v % 10) :: t)) := by
        show _ = _
        rw [hT.out, dec_big hs]; simp
      have hz : (((v : Int) / 10) == 0) = false := by simp; omega
      clear hT
      go_wp2
      go_round
      case rel => exact ⟨v / 10, _, by omega, by simp, rfl, hstep⟩
      case measure => simp [intOf]; omega

theorem itoa_pos {n : Int} (h : ¬ n < 0) : Lib.itoa n = Lib.decDigits n.toNat := by unfold Lib.itoa; rw [if_neg h]
theorem itoa_below {n : Int} (h : n < 0) : Lib.itoa n = 45 :: Lib.decDigits (-n).toNat := by
  unfold Lib.itoa; rw [if_pos h]; congr 2; omega

set_option maxRecDepth 100000 in
set_option maxHeartbeats 1000000 in
/-- offshootref25.number -/
theorem refNumber_any (n : Int) (hn : Off.I64 n) (w : World) :
    Calls Tryz.prog 71 #[.int .i64 n] w fun e w' => e = .returned (.string ⟨(Lib.itoa n).toArray⟩) ∧ Keeps No w w' := by
  obtain ⟨h0, h1⟩ := hn
  by_cases h : n < 0
  · have hu := refDigits_any (-n).toNat (by omega)
    have hl := dec_len (-n).toNat (by omega)
    have m1 : ¬ 9223372036854775807 < 1 + (Lib.decDigits (-n).toNat).length := by omega
    have hi := Lib.hid (itoa_below h)
    have hc : (((-n).toNat : Nat) : Int) = -n := by omega
    rw [hc] at hu
    have w1 : IntKind.i64.wrap (n + 1) = n + 1 := IntWalk.i64_in _ (by omega)
    have w2 : IntKind.i64.wrap (-(n + 1)) = -(n + 1) := IntWalk.i64_in _ (by omega)
    have w3 : IntKind.u64.wrap (-(n + 1)) = -(n + 1) := IntWalk.u64_in _ (by omega)
    have w4 : IntKind.u64.wrap (-(n + 1) + 1) = -n := by rw [IntWalk.u64_in _ (by omega)]; omega
    have hcat := dec_cons (Lib.decDigits (-n).toNat) 45
    generalize Lib.decDigits (-n).toNat = dl at *
    clear hc
    go_enter Tryz.func71, Tryz.ntmps71
    go_wp2_with fail
    refine (hu _).mono ?_
    rintro e w5 ⟨rfl, k5⟩
    go_wp2
    go_ret
    exact ⟨by rw [hi.out]; rfl, k5⟩
  · have hu := refDigits_any n.toNat (by omega)
    have hi := Lib.hid (itoa_pos h)
    have hc : ((n.toNat : Nat) : Int) = n := by omega
    rw [hc] at hu
    have w3 : IntKind.u64.wrap n = n := IntWalk.u64_in _ (by omega)
    generalize Lib.decDigits n.toNat = dl at *
    clear hc
    go_enter Tryz.func71, Tryz.ntmps71
    go_wp2_with fail
    refine (hu _).mono ?_
    rintro e w5 ⟨rfl, k5⟩
    go_wp2
    go_ret
    exact ⟨by rw [hi.out]; rfl, k5⟩

/-- names: the word of a command that has a block alone -/
def nameW (k : Int) (f : Bool) : List UInt8 :=
  if k = 5 then Off.sJoin else if k = 6 then Off.sIndent else if k = 7 then Off.sOutdent else if k = 8 then Off.sUp
  else if k = 9 then Off.sDown else if k = 10 then Off.sTrashC else if k = 11 then Off.sRestore
  else if k = 12 then (if f then Off.sFold else Off.sUnfold) else []

set_option maxRecDepth 100000 in
set_option maxHeartbeats 1000000 in
/-- offshootref25.names -/
theorem refNames_any (c : Off.Cmd) (w : World) :
    Calls Tryz.prog 112 #[cmdV c] w fun e w' => e = .returned (.string ⟨(nameW c.kind c.flag).toArray⟩) ∧ Keeps No w w' := by
  obtain ⟨k, ⟨R, N⟩, p, n, t, f, ⟨R2, N2⟩⟩ := c
  have hk : k = 5 ∨ k = 6 ∨ k = 7 ∨ k = 8 ∨ k = 9 ∨ k = 10 ∨ k = 11 ∨ k = 12 ∨ (k ≠ 5 ∧ k ≠ 6 ∧ k ≠ 7 ∧ k ≠ 8 ∧ k ≠ 9 ∧ k ≠ 10 ∧ k ≠ 11 ∧ k ≠ 12) := by omega
  rcases hk with rfl | rfl | rfl | rfl | rfl | rfl | rfl | rfl | ⟨h5, h6, h7, h8, h9, h10, h11, h12⟩
  case inr.inr.inr.inr.inr.inr.inr.inl =>
    cases f
    all_goals
      go_enter Tryz.func112, Tryz.ntmps112
      go_wp2
      go_ret
      exact ⟨rfl, (by repeat (first | exact Keeps.refl _ _ | assumption | refine Keeps.alloc ?_ _ | refine Keeps.drewN ?_ _ | refine Keeps.drew ?_ | refine Keeps.set1 ?_ _ | refine Keeps.no ?_ (by assumption) | refine Keeps.any ?_))⟩
  case inr.inr.inr.inr.inr.inr.inr.inr =>
    have hn : Hid (nameW k f = []) := by
      show _ = _
      unfold nameW
      rw [if_neg h5, if_neg h6, if_neg h7, if_neg h8, if_neg h9, if_neg h10, if_neg h11, if_neg h12]
    have g5 : (k == 5) = false := by simpa using h5
    have g6 : (k == 6) = false := by simpa using h6
    have g7 : (k == 7) = false := by simpa using h7
    have g8 : (k == 8) = false := by simpa using h8
    have g9 : (k == 9) = false := by simpa using h9
    have g10 : (k == 10) = false := by simpa using h10
    have g11 : (k == 11) = false := by simpa using h11
    have g12 : (k == 12) = false := by simpa using h12
    clear h5 h6 h7 h8 h9 h10 h11 h12
    go_enter Tryz.func112, Tryz.ntmps112
    go_wp2
    go_ret
    exact ⟨by simp only; rw [hn.out]; rfl, (by repeat (first | exact Keeps.refl _ _ | assumption | refine Keeps.alloc ?_ _ | refine Keeps.drewN ?_ _ | refine Keeps.drew ?_ | refine Keeps.set1 ?_ _ | refine Keeps.no ?_ (by assumption) | refine Keeps.any ?_))⟩
  all_goals
    go_enter Tryz.func112, Tryz.ntmps112
    go_wp2
    go_ret
    exact ⟨rfl, (by repeat (first | exact Keeps.refl _ _ | assumption | refine Keeps.alloc ?_ _ | refine Keeps.drewN ?_ _ | refine Keeps.drew ?_ | refine Keeps.set1 ?_ _ | refine Keeps.no ?_ (by assumption) | refine Keeps.any ?_))⟩

theorem w64_wrap (n : Int) : Off.w64 n = wrap64 n := by unfold Off.w64 wrap64; rfl
theorem val_take (s : List UInt8) (k : Nat) (h : k < s.length) : Off.valLoop (s.take (k + 1)) = Off.valStep (Off.valLoop (s.take k)) s[k] := by
  rw [List.take_succ_eq_append_getElem h, Off.valLoop_snoc]

set_option maxRecDepth 100000 in
set_option maxHeartbeats 1000000 in
/-- offshootref25.value -/
theorem refValue_same (s : List UInt8) (w : World) (hs : s.length ≤ 1000000) :
    Calls Tryz.prog 69 #[.string ⟨s.toArray⟩] w fun e w' => e = .returned (.int .i64 (Off.value s)) ∧ w = w' := by
  go_enter Tryz.func69, Tryz.ntmps69
  go_wp2
  go_loop [3, 4] (fun n i => ∃ k : Nat, k ≤ s.length ∧ i = .int .i64 k ∧ n = .int .i64 (Off.valLoop (s.take k))) (fun _ i => s.length - (intOf i).toNat)
  case atStart => exact ⟨0, Nat.zero_le _, rfl, rfl⟩
  case round =>
    obtain ⟨k, hk, rfl, rfl⟩ := hrel
    by_cases hlt : k < s.length
    · have hx : ∀ h, (ByteArray.mk s.toArray)[k]'h = s[k] := fun _ => rfl
      have hst := Lib.hid (val_take s k hlt)
      generalize Off.valLoop (s.take k) = n at hst ⊢
      by_cases hd : Off.isDig s[k] = true
      · have hst' : Hid (Off.valLoop (s.take (k + 1)) = wrap64 (wrap64 (n * 10) + ((s[k].toNat : Int) - 48))) := by
          show _ = _
          rw [hst.out]; unfold Off.valStep; rw [if_pos hd, w64_wrap, w64_wrap]
        have hb : 48 ≤ s[k].toNat ∧ s[k].toNat ≤ 57 := by unfold Off.isDig at hd; simpa using hd
        have b1 : (48 : Int) ≤ s[k].toNat := by omega
        have b2 : (s[k].toNat : Int) ≤ 57 := by omega
        clear hst hd hb
        go_wp2
        go_round
        case rel => exact ⟨k + 1, by omega, by go_num, by rw [hst'.out]⟩
        case measure => simp [intOf]; omega
      · have hst' : Hid (Off.valLoop (s.take (k + 1)) = n) := by
          show _ = _
          rw [hst.out]; unfold Off.valStep; rw [if_neg hd]
        have hb : ¬ 48 ≤ s[k].toNat ∨ (48 ≤ s[k].toNat ∧ ¬ s[k].toNat ≤ 57) := by
          unfold Off.isDig at hd
          simp only [Bool.and_eq_true, decide_eq_true_eq] at hd
          omega
        clear hst hd
        rcases hb with hb | ⟨hb, hb'⟩
        · have b1 : ¬ (48 : Int) ≤ s[k].toNat := by omega
          go_wp2
          go_round
          case rel => exact ⟨k + 1, by omega, by go_num, by rw [hst'.out]⟩
          case measure => simp [intOf]; omega
        · have b1 : (48 : Int) ≤ s[k].toNat := by omega
          have b2 : ¬ (s[k].toNat : Int) ≤ 57 := by omega
          go_wp2
          go_round
          case rel => exact ⟨k + 1, by omega, by go_num, by rw [hst'.out]⟩
          case measure => simp [intOf]; omega
    · obtain rfl : k = s.length := by omega
      have ht : s.take s.length = s := List.take_length
      rw [ht]
      clear ht
      cases s with
      | nil =>
        go_wp2
        go_ret
        exact ⟨rfl, rfl⟩
      | cons c r =>
        have hx : ∀ h, (ByteArray.mk (c :: r).toArray)[0]'h = c := fun _ => rfl
        by_cases h45 : c = 45
        · subst h45
          have hv : Hid (Off.value (45 :: r) = wrap64 (-(Off.valLoop (45 :: r)))) := by
            show _ = _
            unfold Off.value; rw [if_pos (show (45 :: r).head? = some 45 from rfl), w64_wrap]
          generalize Off.valLoop (45 :: r) = n at hv ⊢
          go_wp2
          go_ret
          exact ⟨by rw [hv.out]; rfl, rfl⟩
        · have hv : Hid (Off.value (c :: r) = Off.valLoop (c :: r)) := by
            show _ = _
            unfold Off.value; rw [if_neg (by simpa using h45)]
          have n45 : ((c.toNat : Int) == 45) = false := by
            rw [beq_eq_false_iff_ne]; intro e; exact h45 (UInt8.toNat_inj.1 (by rw [show (45 : UInt8).toNat = 45 from rfl]; omega))
          generalize Off.valLoop (c :: r) = n at hv ⊢
          go_wp2
          go_ret
          exact ⟨by rw [hv.out]; rfl, rfl⟩

theorem refValue_any (s : List UInt8) (w : World) (hs : s.length ≤ 1000000) :
    Calls Tryz.prog 69 #[.string ⟨s.toArray⟩] w fun e w' => e = .returned (.int .i64 (Off.value s)) ∧ Keeps No w w' :=
  (refValue_same s w hs).mono fun _ _ ⟨he, hw⟩ => ⟨he, hw ▸ Keeps.refl _ _⟩

end Go.Proofs.YtkpenijilnagjaaGreatDoor
