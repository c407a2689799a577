/- The document's names and numbers as texts: offshootref03, and the first functions of offshootref25, each by its contract. -/
import Derived.Test.YtkpenijilnagjaaGreatDoorQuote
import Derived.Test.YtkpenijilnagjaaGreatDoorScrRef
import Derived.Laws.DeepStrings4
namespace Go.Proofs.YtkpenijilnagjaaGreatDoor
open Go.RowKit

set_option maxHeartbeats 400000 in
theorem refRightOp_any (R N : Int) (w : World) :
    Calls Tryz.prog 114 #[.agg #[.int .i64 R, .int .i64 N]] w fun e w' =>
      e = .returned (.bool (Off.rightOp ⟨R, N⟩)) ∧ Keeps No w w' := by
  by_cases h : 0 ≤ R ∧ R ≤ 15 ∧ 1 ≤ N ∧ N ≤ 1048576
  · obtain ⟨h0, h1, h2, h3⟩ := h
    have H : Hid (Off.rightOp ⟨R, N⟩ = true) := Off.rightOp_iff.2 ⟨h0, by show R < 16; omega, h2, h3⟩
    go_enter Tryz.func114, Tryz.ntmps114
    go_wp2
    go_ret
    exact ⟨ret_bool H.out.symm, (Keeps.refl _ _).alloc _⟩
  · have H : Hid (Off.rightOp ⟨R, N⟩ = false) := by
      have : ¬ Off.rightOp ⟨R, N⟩ = true := fun e => h (by have := Off.rightOp_iff.1 e; simp only at this; omega)
      exact Bool.eq_false_iff.2 this
    go_enter Tryz.func114, Tryz.ntmps114
    go_wp2
    all_goals
      go_ret
      refine ⟨ret_bool ?_, (Keeps.refl _ _).alloc _⟩
      rw [H.out]
      try (simp; omega)

theorem rightBlock_form (R N : Int) : Off.rightBlock ⟨R, N⟩ = (Off.rightOp ⟨R, N⟩ || (decide (N = 0) && (decide (R = 0) || decide (R = 1)))) := by
  unfold Off.rightBlock Off.Bid.z Off.Bid.t
  rw [Bool.eq_iff_iff]
  simp only [Bool.or_eq_true, Bool.and_eq_true, decide_eq_true_eq, Off.Bid.mk.injEq]
  constructor
  · rintro ((⟨h1, h2⟩ | ⟨h1, h2⟩) | h)
    · exact .inr ⟨h2, .inl h1⟩
    · exact .inr ⟨h2, .inr h1⟩
    · exact .inl h
  · rintro (h | ⟨h1, h2 | h2⟩)
    · exact .inr h
    · exact .inl (.inl ⟨h2, h1⟩)
    · exact .inl (.inr ⟨h2, h1⟩)

set_option maxHeartbeats 400000 in
theorem refRightBlock_any (R N : Int) (w : World) :
    Calls Tryz.prog 72 #[.agg #[.int .i64 R, .int .i64 N]] w fun e w' =>
      e = .returned (.bool (Off.rightBlock ⟨R, N⟩)) ∧ Keeps No w w' := by
  have HF := Lib.hid (rightBlock_form R N)
  have cO := fun w1 => refRightOp_any R N w1
  generalize Off.rightOp ⟨R, N⟩ = b at HF cO
  generalize Off.rightBlock ⟨R, N⟩ = b2 at HF
  cases b
  · have e0 : R = 0 ∨ ¬ R = 0 := Classical.em _
    have e1 : R = 1 ∨ ¬ R = 1 := Classical.em _
    have e2 : N = 0 ∨ ¬ N = 0 := Classical.em _
    rcases e0 with rfl | e0 <;> rcases e1 with e1 | e1 <;> rcases e2 with rfl | e2 <;> (try subst e1) <;> (try contradiction)
    all_goals
      go_enter Tryz.func72, Tryz.ntmps72
      go_wp2_with fail
      refine (cO _).mono ?_
      rintro e w1 ⟨rfl, k1⟩
      have c0 : w1.cell? ⟨w.heap.size, 0, none⟩ = _ := (k1.cell (by simp) id).trans (by simp; rfl)
      have c1 : w1.cell? ⟨w.heap.size, 1, none⟩ = _ := (k1.cell (by simp) id).trans (by simp; rfl)
      clear cO
      go_wp2
      go_ret
      refine ⟨ret_bool ?_, (by repeat (first | exact Keeps.refl _ _ | assumption | refine Keeps.alloc ?_ _ | refine Keeps.drewN ?_ _ | refine Keeps.drew ?_ | refine Keeps.set1 ?_ _ | refine Keeps.no ?_ (by assumption) | refine Keeps.any ?_))⟩
      rw [HF.out]
      simp_all
  · go_enter Tryz.func72, Tryz.ntmps72
    go_wp2_with fail
    refine (cO _).mono ?_
    rintro e w1 ⟨rfl, k1⟩
    clear cO
    go_wp2
    go_ret
    exact ⟨ret_bool (by rw [HF.out]; rfl), (by repeat (first | exact Keeps.refl _ _ | assumption | refine Keeps.alloc ?_ _ | refine Keeps.drewN ?_ _ | refine Keeps.drew ?_ | refine Keeps.set1 ?_ _ | refine Keeps.no ?_ (by assumption) | refine Keeps.any ?_))⟩

/-- the digit n -/
def dgt (n : Nat) : UInt8 := UInt8.ofNat (48 + n)
theorem digit_slice : ∀ n : Nat, n < 10 → (ByteArray.mk #[48, 49, 50, 51, 52, 53, 54, 55, 56, 57]).extract n (n + 1) = ⟨#[dgt n]⟩ := by decide

theorem dec_len (u : Nat) (h : u ≤ 9223372036854775808) : (Lib.decDigits u).length ≤ 20 := by
  rw [Lib.decDigits_length]
  exact Off.nDigits_le (k := 19) (by omega)

theorem dec_big {n : Nat} (h : ¬ n < 10) : Lib.decDigits n = Lib.decDigits (n / 10) ++ [dgt (n % 10)] := by
  rw [Lib.decDigits, dif_neg h]; rfl
theorem bytes_snoc (a : List UInt8) (c : UInt8) : ByteArray.mk a.toArray ++ ByteArray.mk #[c] = ByteArray.mk (a ++ [c]).toArray := by
  rw [bytes_app]; congr 1; apply Array.ext'; simp

theorem digit_run (k k' : IntKind) (n : Nat) (hn : n < 10) (i j : Int) (hi : i = n) (hj : j = n + 1) (W : World) :
    (Instr.slice 9 (.string ⟨#[48, 49, 50, 51, 52, 53, 54, 55, 56, 57]⟩) (some (.int k i)) (some (.int k' j)) none).run Tryz.prog W = .ok (.string ⟨#[dgt n]⟩) W := by
  subst hi hj
  rw [run_slice_string_if W _ _ _ _ _ _ Tryz.underlying9, if_pos ⟨by omega, by show (n : Int) + 1 ≤ 10; omega⟩, if_pos ⟨by omega, by omega⟩, Int.toNat_natCast, show ((n : Int) + 1).toNat = n + 1 by omega, digit_slice n hn]

set_option maxRecDepth 100000 in
set_option maxHeartbeats 1000000 in
/-- offshootref03.digits -/
theorem refDec_any : ∀ (n : Nat), n ≤ 9223372036854775807 → ∀ (w : World),
    Calls Tryz.prog 160 #[.int .i64 n] w fun e w' => e = .returned (.string ⟨(Lib.decDigits n).toArray⟩) ∧ Keeps No w w' := by
  intro n
  induction n using Nat.strongRecOn with
  | _ n ih =>
    intro hn w
    by_cases h : n < 10
    · have hdd := Lib.hid (show Lib.decDigits n = [dgt n] from Lib.decDigits_one h)
      have h' : (n : Int) < 10 := by omega
      have hsl := fun W => digit_run .i64 .i64 n h (n : Int) ((n : Int) + 1) rfl rfl W
      go_enter Tryz.func160, Tryz.ntmps160
      go_wp2
      go_ret
      exact ⟨by rw [hdd.out]; rfl, Keeps.refl _ _⟩
    · have hdd := Lib.hid (dec_big h)
      have h' : ¬ (n : Int) < 10 := by omega
      have hdl := dec_len (n / 10) (by omega)
      have hm := Nat.mod_lt n (show 0 < 10 by decide)
      have hsl := fun W => digit_run .i64 .i64 (n % 10) hm ((n : Int) % 10) ((n : Int) % 10 + 1) (by omega) (by omega) W
      have hq : (n : Int) / 10 = ((n / 10 : Nat) : Int) := by omega
      have cI : ∀ d os, Calls Tryz.prog 160 #[.int .i64 ((n : Int) / 10)] (Sort.grow (redrawn w d) os) fun e w'' => e = .returned (.string ⟨(Lib.decDigits (n / 10)).toArray⟩) ∧ ∃ p : Regrown, w'' = Sort.grow (redrawn w p.d) p.os := by
        rw [hq]
        exact fun d os => calls_regrown (ih (n / 10) (by omega) (by omega) _)
      have g0 : (0 : Int) ≤ (n : Int) % 10 := by omega
      have g1 : (n : Int) % 10 < 10 := by omega
      have m1 : ¬ 9223372036854775807 < (Lib.decDigits (n / 10)).length + 1 := by omega
      have w0 : IntKind.i64.wrap ((n : Int) / 10) = (n : Int) / 10 := IntWalk.i64_in _ (by omega)
      have w1 : IntKind.i64.wrap ((n : Int) % 10 + 1) = (n : Int) % 10 + 1 := IntWalk.i64_in _ (by omega)
      have wt : (n : Int).tmod 10 = (n : Int) % 10 := Int.tmod_eq_emod_of_nonneg (by omega)
      clear hq ih
      generalize Lib.decDigits (n / 10) = dl at hdd hdl cI m1
      go_enter Tryz.func160, Tryz.ntmps160
      go_wp2
      refine wp_region_quiet_below (by kernel_rfl) (by kernel_rfl) ?_
      repeat (quiet_step (exact cI _ _))
      refine wpQuiet_nil ?_
      intro _ hw'
      obtain ⟨⟨dq, osq⟩, hw''⟩ := hw'
      subst hw''
      go_wp2
      go_ret
      exact ⟨by rw [hdd.out, ← bytes_snoc]; rfl, keeps_regrown w dq osq⟩

theorem showId_op {R N : Int} (h : Off.rightOp ⟨R, N⟩ = true) : Off.showId ⟨R, N⟩ = Lib.itoa R ++ 46 :: Lib.itoa N := by
  obtain ⟨h0, h1, h2, h3⟩ := Off.rightOp_iff.1 h
  simp only at h0 h1 h2 h3
  unfold Off.showId
  rw [if_neg (by unfold Off.Bid.z; intro e; injection e with e1 e2; omega), if_neg (by unfold Off.Bid.t; intro e; injection e with e1 e2; omega), if_neg (by rw [h]; decide)]
theorem refDec_int (m : Int) (h0 : 0 ≤ m) (hm : m ≤ 9223372036854775807) (w : World) :
    Calls Tryz.prog 160 #[.int .i64 m] w fun e w' => e = .returned (.string ⟨(Lib.itoa m).toArray⟩) ∧ Keeps No w w' := by
  obtain ⟨n, rfl⟩ := Int.eq_ofNat_of_zero_le h0
  have e : Lib.itoa (n : Int) = Lib.decDigits n := by unfold Lib.itoa; rw [if_neg (by omega)]; simp
  rw [e]
  exact refDec_any n (by omega) w
theorem showId_bad {R N : Int} (h : Off.rightBlock ⟨R, N⟩ = false) : Off.showId ⟨R, N⟩ = [63] := by
  unfold Off.rightBlock at h
  simp only [Bool.or_eq_false_iff, decide_eq_false_iff_not] at h
  unfold Off.showId
  rw [if_neg h.1.1, if_neg h.1.2, if_pos h.2]

set_option maxRecDepth 100000 in
set_option maxHeartbeats 1000000 in
/-- offshootref03.Show -/
theorem refShow_any (R N : Int) (w : World) (hE : Env w) :
    Calls Tryz.prog 115 #[.agg #[.int .i64 R, .int .i64 N]] w fun e w' =>
      e = .returned (.string ⟨(Off.showId ⟨R, N⟩).toArray⟩) ∧ Keeps No w w' := by
  have cB := fun w1 => refRightBlock_any R N w1
  have hz := hE.size
  by_cases hb : Off.rightBlock ⟨R, N⟩ = true
  · rw [hb] at cB
    by_cases hop : Off.rightOp ⟨R, N⟩ = true
    · have hs := Lib.hid (showId_op hop)
      obtain ⟨h0, h1, h2, h3⟩ := Off.rightOp_iff.1 hop
      simp only at h0 h1 h2 h3
      clear hb hop
      have cD : ∀ w1 (m : Int), 0 ≤ m → m ≤ 9223372036854775807 → ∀ d os, Calls Tryz.prog 160 #[.int .i64 m] (Sort.grow (redrawn w1 d) os) fun e w'' => e = .returned (.string ⟨(Lib.itoa m).toArray⟩) ∧ ∃ p : Regrown, w'' = Sort.grow (redrawn w1 p.d) p.os :=
        fun w1 m h0 hm d os => calls_regrown (refDec_int m h0 hm _)
      have b1 : R ≤ 9223372036854775807 := by omega
      have b2 : N ≤ 9223372036854775807 := by omega
      have b3 : 0 ≤ N := by omega
      have l1 := itoa_len R ⟨by omega, by omega⟩
      have l2 := itoa_len N ⟨by omega, by omega⟩
      have m1 : ¬ 9223372036854775807 < (Lib.itoa R).length + 1 := by omega
      have m2 : ¬ 9223372036854775807 < (Lib.itoa R).length + 1 + (Lib.itoa N).length := by omega
      have hn0 : ¬ N = 0 := by omega
      have e0 : R = 0 ∨ ¬ R = 0 := Classical.em _
      have e1 : R = 1 ∨ ¬ R = 1 := Classical.em _
      rcases e0 with rfl | e0 <;> rcases e1 with e1 | e1 <;> (try subst e1) <;> (try contradiction)
      all_goals
        go_enter Tryz.func115, Tryz.ntmps115
        go_wp2_with fail
        refine (cB _).mono ?_
        rintro e w1 ⟨rfl, k1⟩
        have c0 : w1.cell? ⟨w.heap.size, 0, none⟩ = _ := (k1.cell (by simp) id).trans (by simp; rfl)
        have c1 : w1.cell? ⟨w.heap.size, 1, none⟩ = _ := (k1.cell (by simp) id).trans (by simp; rfl)
        have x0 := cell_regrown c0
        have x1 := cell_regrown c1
        have hE1 : Env w1 := (hE.alloc _).no k1
        have r0 := hE1.root0
        have r1 := hE1.root1
        have t0 := hE1.trash0
        have t1 := hE1.trash1
        have f1 := cD w1
        clear cB cD
        go_wp2
        refine wp_region_quiet_below (by kernel_rfl) (by kernel_rfl) ?_
        repeat (quiet_step (exact f1 _ (by first | assumption | decide) (by first | assumption | decide) _ _))
        refine wpQuiet_nil ?_
        intro _ hw'
        obtain ⟨⟨dq, osq⟩, hw''⟩ := hw'
        subst hw''
        go_wp2
        go_ret
        refine ⟨?_, (((Keeps.refl _ _).alloc _).no k1).no (keeps_regrown w1 dq osq)⟩
        rw [dotted, hs.out]
        rfl
    · have hop' : Off.rightOp ⟨R, N⟩ = false := Bool.eq_false_iff.2 hop
      rw [rightBlock_form, hop'] at hb
      simp only [Bool.false_or, Bool.and_eq_true, Bool.or_eq_true, decide_eq_true_eq] at hb
      clear hop hop'
      obtain ⟨rfl, hb⟩ := hb
      rcases hb with rfl | rfl
      all_goals
        go_enter Tryz.func115, Tryz.ntmps115
        go_wp2_with fail
        refine (cB _).mono ?_
        rintro e w1 ⟨rfl, k1⟩
        have c0 : w1.cell? ⟨w.heap.size, 0, none⟩ = _ := (k1.cell (by simp) id).trans (by simp; rfl)
        have c1 : w1.cell? ⟨w.heap.size, 1, none⟩ = _ := (k1.cell (by simp) id).trans (by simp; rfl)
        have hE1 : Env w1 := (hE.alloc _).no k1
        have r0 := hE1.root0
        have r1 := hE1.root1
        have t0 := hE1.trash0
        have t1 := hE1.trash1
        clear cB
        go_wp2
        go_ret
        exact ⟨rfl, ((Keeps.refl _ _).alloc _).no k1⟩
  · have hb' : Off.rightBlock ⟨R, N⟩ = false := Bool.eq_false_iff.2 hb
    rw [hb'] at cB
    have hs := Lib.hid (showId_bad hb')
    clear hb hb'
    go_enter Tryz.func115, Tryz.ntmps115
    go_wp2_with fail
    refine (cB _).mono ?_
    rintro e w1 ⟨rfl, k1⟩
    clear cB
    go_wp2
    go_ret
    exact ⟨by rw [hs.out]; rfl, ((Keeps.refl _ _).alloc _).no k1⟩

end Go.Proofs.YtkpenijilnagjaaGreatDoor
