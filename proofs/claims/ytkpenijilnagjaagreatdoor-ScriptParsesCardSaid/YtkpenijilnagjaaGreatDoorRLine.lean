/- offshootref25.Line: an event as a line without its end. -/
import Derived.Test.YtkpenijilnagjaaGreatDoorRCmd
import Derived.Test.YtkpenijilnagjaaGreatDoorEqEv
namespace Go.Proofs.YtkpenijilnagjaaGreatDoor
open Go.RowKit

/-- how Line ends -/
def RLinePost (ev : Off.Ev) (w : World) (e : Ending) (w' : World) : Prop :=
  e = .returned (.tuple #[.string ⟨(if Off.evOk ev = true then Off.evLine ev else []).toArray⟩, .bool (Off.evOk ev)]) ∧ Keeps No w w'
theorem RLinePost.yes {ev : Off.Ev} {v : Value} {t : List UInt8} {w w' : World} (h : Off.evOk ev = true) (ht : Off.evLine ev = t) (hv : v = .tuple #[.string ⟨t.toArray⟩, .bool true]) (k : Keeps No w w') : RLinePost ev w (.returned v) w' := by
  unfold RLinePost; rw [h, if_pos rfl, ht, hv]; exact ⟨rfl, k⟩
theorem RLinePost.no {ev : Off.Ev} {v : Value} {w w' : World} (h : Off.evOk ev = false) (hv : v = .tuple #[.string ⟨#[]⟩, .bool false]) (k : Keeps No w w') : RLinePost ev w (.returned v) w' := by
  unfold RLinePost; rw [h, if_neg (by decide), hv]; exact ⟨rfl, k⟩
theorem ok_plain {e told : Off.Ev} (hk : e.kind ≠ 1) (h : Off.evTold e = told) (hw : 0 < (Off.evWords e).length) : Off.evOk e = evSame told e := by
  rw [evOk_eq h hw]
  unfold Off.rightEv
  rw [decide_eq_true hk, Bool.true_or, Bool.and_true]

theorem do_line (n eto keep : Int) (ef : Bool) (c : Off.Cmd) : Off.evLine ⟨1, n, eto, keep, ef, c⟩ = [100, 111, 32] ++ Lib.itoa n ++ [32] ++ Off.joinW (Off.cmdWords c) := by
  show Off.joinW ([Off.sDo, Lib.itoa n] ++ Off.cmdWords c) = _
  obtain ⟨a, r, h⟩ := Off.cmdWords_ne c
  rw [h]
  show [100, 111] ++ 32 :: (Lib.itoa n ++ 32 :: Off.joinW (a :: r)) = _
  simp
theorem do_ok (n eto keep : Int) (ef : Bool) (c : Off.Cmd) (h : 1 ≤ c.kind ∧ c.kind ≤ 14) (h1 : Off.rightBlock c.block = true) (h2 : Off.rightBlock c.other = true) :
    Off.evOk ⟨1, n, eto, keep, ef, c⟩ = evSame ⟨1, n, 0, 0, false, Off.cmdTold c⟩ ⟨1, n, eto, keep, ef, c⟩ := by
  have hw : 0 < (Off.evWords ⟨1, n, eto, keep, ef, c⟩).length := by
    show 0 < ([Off.sDo, Lib.itoa n] ++ Off.cmdWords c).length
    simp
  rw [evOk_eq (e := ⟨1, n, eto, keep, ef, c⟩) (told := ⟨1, n, 0, 0, false, Off.cmdTold c⟩) rfl hw]
  unfold Off.rightEv
  simp only
  rw [h1, h2, decide_eq_true h.1, decide_eq_true h.2]
  simp
theorem do_bad (n eto keep : Int) (ef : Bool) (c : Off.Cmd) (h : ¬ (1 ≤ c.kind ∧ c.kind ≤ 14) ∨ Off.rightBlock c.block = false ∨ Off.rightBlock c.other = false) : Off.evOk ⟨1, n, eto, keep, ef, c⟩ = false := by
  unfold Off.evOk Off.rightEv
  simp only
  rcases h with h | h | h
  · have : (decide (1 ≤ c.kind) && decide (c.kind ≤ 14)) = false := by simpa using h
    simp [this]
  · simp [h]
  · simp [h]
theorem none_ok {k n eto keep : Int} {ef : Bool} {c : Off.Cmd} (h : k < 1 ∨ 8 < k) : Off.evOk ⟨k, n, eto, keep, ef, c⟩ = false := by
  have hw : Off.evWords ⟨k, n, eto, keep, ef, c⟩ = [] := by
    unfold Off.evWords
    simp only
    rw [if_neg (by omega), if_neg (by omega), if_neg (by omega), if_neg (by omega), if_neg (by omega), if_neg (by omega), if_neg (by omega), if_neg (by omega)]
  unfold Off.evOk
  rw [hw]
  simp

set_option maxRecDepth 100000 in
set_option maxHeartbeats 4000000 in
theorem rline_sync (n eto keep : Int) (ef : Bool) (ck R N p m : Int) (tx : List UInt8) (cf : Bool) (R2 N2 : Int) (w : World) (hE : Env w) (hF : EvFits ⟨2, n, eto, keep, ef, ⟨ck, ⟨R, N⟩, p, m, tx, cf, ⟨R2, N2⟩⟩⟩) :
    Calls Tryz.prog 39 #[evV ⟨2, n, eto, keep, ef, ⟨ck, ⟨R, N⟩, p, m, tx, cf, ⟨R2, N2⟩⟩⟩] w (RLinePost ⟨2, n, eto, keep, ef, ⟨ck, ⟨R, N⟩, p, m, tx, cf, ⟨R2, N2⟩⟩⟩ w) := by
  have hz := hE.size
  obtain ⟨hn, hto, hkeep, hC⟩ := hF
  simp only at hn hto hkeep
  have ln := itoa_len n hn
  have gE := guardEv
  have qE := eqEvMax
  have hEb := hE.alloc (.cells #[.int .i64 2, .int .i64 n, .int .i64 eto, .int .i64 keep, .bool ef, .int .i64 ck, .int .i64 R, .int .i64 N, .int .i64 p, .int .i64 m, .string ⟨tx.toArray⟩, .bool cf, .int .i64 R2, .int .i64 N2] 79)
  go_enter Tryz.func39, Tryz.ntmps39
  go_wp2_with fail
  refine (refNumber_any n hn _).mono ?_
  rintro e w1 ⟨rfl, k1⟩
  have b0 : w1.heap[w.heap.size]? = some (.cells #[.int .i64 2, .int .i64 n, .int .i64 eto, .int .i64 keep, .bool ef, .int .i64 ck, .int .i64 R, .int .i64 N, .int .i64 p, .int .i64 m, .string ⟨tx.toArray⟩, .bool cf, .int .i64 R2, .int .i64 N2] 79 (0, 0)) := k1.own id
  have K1 : Keeps No w w1 := ((Keeps.refl _ _).alloc _).trans k1
  have hE1 : Env w1 := hEb.no k1
  have c0 := Lib.cell_of_heap b0
  have lt1 : w.heap.size < w1.heap.size := heap_lt b0
  have ne1 : ¬ w.heap.size = w1.heap.size := by omega
  clear hEb k1
  have hok := ok_plain (e := ⟨2, n, eto, keep, ef, ⟨ck, ⟨R, N⟩, p, m, tx, cf, ⟨R2, N2⟩⟩⟩) (told := ⟨2, n, 0, 0, false, ⟨0, ⟨0, 0⟩, 0, 0, [], false, ⟨0, 0⟩⟩⟩) (show (2 : Int) ≠ 1 by decide) rfl (Nat.zero_lt_succ _)
  have hli : Off.evLine ⟨2, n, eto, keep, ef, ⟨ck, ⟨R, N⟩, p, m, tx, cf, ⟨R2, N2⟩⟩⟩ = [115, 121, 110, 99, 32] ++ Lib.itoa n := by show [115, 121, 110, 99] ++ 32 :: Lib.itoa n = _; simp
  have m0 : ¬ 9223372036854775807 < 5 + (Lib.itoa n).length := by omega
  have hcat : ByteArray.mk #[115, 121, 110, 99, 32] ++ ByteArray.mk (Lib.itoa n).toArray = ByteArray.mk (List.toArray ([115, 121, 110, 99, 32] ++ Lib.itoa n)) := by
    rw [bytes_app]
    refine congrArg ByteArray.mk ?_
    apply Array.ext'
    simp
  have hne : (([115, 121, 110, 99, 32] ++ Lib.itoa n : List UInt8) == []) = false := rfl
  obtain ⟨LN, hLN⟩ : ∃ LN : List UInt8, [115, 121, 110, 99, 32] ++ Lib.itoa n = LN := ⟨_, rfl⟩
  rw [hLN] at hcat hne
  have HLN := Lib.hid hLN
  have Hli := Lib.hid hli
  clear hLN hli
  cases hq : evSame ⟨2, n, 0, 0, false, ⟨0, ⟨0, 0⟩, 0, 0, [], false, ⟨0, 0⟩⟩⟩ ⟨2, n, eto, keep, ef, ⟨ck, ⟨R, N⟩, p, m, tx, cf, ⟨R2, N2⟩⟩⟩ with
  | true =>
    rw [hq] at hok
    have Hok := Lib.hid hok
    clear hok
    go_wp2_with fail
    go_ret2
    exact RLinePost.yes Hok.out (Hli.out.trans HLN.out) rfl (K1.alloc _)
  | false =>
    rw [hq] at hok
    have Hok := Lib.hid hok
    clear hok
    go_wp2_with fail
    go_ret2
    exact RLinePost.no Hok.out rfl (K1.alloc _)

set_option maxRecDepth 100000 in
set_option maxHeartbeats 4000000 in
theorem rline_compact (n eto keep : Int) (ef : Bool) (ck R N p m : Int) (tx : List UInt8) (cf : Bool) (R2 N2 : Int) (w : World) (hE : Env w) (hF : EvFits ⟨8, n, eto, keep, ef, ⟨ck, ⟨R, N⟩, p, m, tx, cf, ⟨R2, N2⟩⟩⟩) :
    Calls Tryz.prog 39 #[evV ⟨8, n, eto, keep, ef, ⟨ck, ⟨R, N⟩, p, m, tx, cf, ⟨R2, N2⟩⟩⟩] w (RLinePost ⟨8, n, eto, keep, ef, ⟨ck, ⟨R, N⟩, p, m, tx, cf, ⟨R2, N2⟩⟩⟩ w) := by
  have hz := hE.size
  obtain ⟨hn, hto, hkeep, hC⟩ := hF
  simp only at hn hto hkeep
  have ln := itoa_len n hn
  have gE := guardEv
  have qE := eqEvMax
  have hEb := hE.alloc (.cells #[.int .i64 8, .int .i64 n, .int .i64 eto, .int .i64 keep, .bool ef, .int .i64 ck, .int .i64 R, .int .i64 N, .int .i64 p, .int .i64 m, .string ⟨tx.toArray⟩, .bool cf, .int .i64 R2, .int .i64 N2] 79)
  go_enter Tryz.func39, Tryz.ntmps39
  go_wp2_with fail
  refine (refNumber_any n hn _).mono ?_
  rintro e w1 ⟨rfl, k1⟩
  have b0 : w1.heap[w.heap.size]? = some (.cells #[.int .i64 8, .int .i64 n, .int .i64 eto, .int .i64 keep, .bool ef, .int .i64 ck, .int .i64 R, .int .i64 N, .int .i64 p, .int .i64 m, .string ⟨tx.toArray⟩, .bool cf, .int .i64 R2, .int .i64 N2] 79 (0, 0)) := k1.own id
  have K1 : Keeps No w w1 := ((Keeps.refl _ _).alloc _).trans k1
  have hE1 : Env w1 := hEb.no k1
  have c0 := Lib.cell_of_heap b0
  have lt1 : w.heap.size < w1.heap.size := heap_lt b0
  have ne1 : ¬ w.heap.size = w1.heap.size := by omega
  clear hEb k1
  have hok := ok_plain (e := ⟨8, n, eto, keep, ef, ⟨ck, ⟨R, N⟩, p, m, tx, cf, ⟨R2, N2⟩⟩⟩) (told := ⟨8, n, 0, 0, false, ⟨0, ⟨0, 0⟩, 0, 0, [], false, ⟨0, 0⟩⟩⟩) (show (8 : Int) ≠ 1 by decide) rfl (Nat.zero_lt_succ _)
  have hli : Off.evLine ⟨8, n, eto, keep, ef, ⟨ck, ⟨R, N⟩, p, m, tx, cf, ⟨R2, N2⟩⟩⟩ = [99, 111, 109, 112, 97, 99, 116, 32] ++ Lib.itoa n := by show [99, 111, 109, 112, 97, 99, 116] ++ 32 :: Lib.itoa n = _; simp
  have m0 : ¬ 9223372036854775807 < 8 + (Lib.itoa n).length := by omega
  have hcat : ByteArray.mk #[99, 111, 109, 112, 97, 99, 116, 32] ++ ByteArray.mk (Lib.itoa n).toArray = ByteArray.mk (List.toArray ([99, 111, 109, 112, 97, 99, 116, 32] ++ Lib.itoa n)) := by
    rw [bytes_app]
    refine congrArg ByteArray.mk ?_
    apply Array.ext'
    simp
  have hne : (([99, 111, 109, 112, 97, 99, 116, 32] ++ Lib.itoa n : List UInt8) == []) = false := rfl
  obtain ⟨LN, hLN⟩ : ∃ LN : List UInt8, [99, 111, 109, 112, 97, 99, 116, 32] ++ Lib.itoa n = LN := ⟨_, rfl⟩
  rw [hLN] at hcat hne
  have HLN := Lib.hid hLN
  have Hli := Lib.hid hli
  clear hLN hli
  cases hq : evSame ⟨8, n, 0, 0, false, ⟨0, ⟨0, 0⟩, 0, 0, [], false, ⟨0, 0⟩⟩⟩ ⟨8, n, eto, keep, ef, ⟨ck, ⟨R, N⟩, p, m, tx, cf, ⟨R2, N2⟩⟩⟩ with
  | true =>
    rw [hq] at hok
    have Hok := Lib.hid hok
    clear hok
    go_wp2_with fail
    go_ret2
    exact RLinePost.yes Hok.out (Hli.out.trans HLN.out) rfl (K1.alloc _)
  | false =>
    rw [hq] at hok
    have Hok := Lib.hid hok
    clear hok
    go_wp2_with fail
    go_ret2
    exact RLinePost.no Hok.out rfl (K1.alloc _)

set_option maxRecDepth 100000 in
set_option maxHeartbeats 4000000 in
theorem rline_start (n eto keep : Int) (ef : Bool) (ck R N p m : Int) (tx : List UInt8) (cf : Bool) (R2 N2 : Int) (w : World) (hE : Env w) (hF : EvFits ⟨7, n, eto, keep, ef, ⟨ck, ⟨R, N⟩, p, m, tx, cf, ⟨R2, N2⟩⟩⟩) :
    Calls Tryz.prog 39 #[evV ⟨7, n, eto, keep, ef, ⟨ck, ⟨R, N⟩, p, m, tx, cf, ⟨R2, N2⟩⟩⟩] w (RLinePost ⟨7, n, eto, keep, ef, ⟨ck, ⟨R, N⟩, p, m, tx, cf, ⟨R2, N2⟩⟩⟩ w) := by
  have hz := hE.size
  obtain ⟨hn, hto, hkeep, hC⟩ := hF
  simp only at hn hto hkeep
  have ln := itoa_len n hn
  have gE := guardEv
  have qE := eqEvMax
  have hEb := hE.alloc (.cells #[.int .i64 7, .int .i64 n, .int .i64 eto, .int .i64 keep, .bool ef, .int .i64 ck, .int .i64 R, .int .i64 N, .int .i64 p, .int .i64 m, .string ⟨tx.toArray⟩, .bool cf, .int .i64 R2, .int .i64 N2] 79)
  go_enter Tryz.func39, Tryz.ntmps39
  go_wp2_with fail
  refine (refNumber_any n hn _).mono ?_
  rintro e w1 ⟨rfl, k1⟩
  have b0 : w1.heap[w.heap.size]? = some (.cells #[.int .i64 7, .int .i64 n, .int .i64 eto, .int .i64 keep, .bool ef, .int .i64 ck, .int .i64 R, .int .i64 N, .int .i64 p, .int .i64 m, .string ⟨tx.toArray⟩, .bool cf, .int .i64 R2, .int .i64 N2] 79 (0, 0)) := k1.own id
  have K1 : Keeps No w w1 := ((Keeps.refl _ _).alloc _).trans k1
  have hE1 : Env w1 := hEb.no k1
  have c0 := Lib.cell_of_heap b0
  have lt1 : w.heap.size < w1.heap.size := heap_lt b0
  have ne1 : ¬ w.heap.size = w1.heap.size := by omega
  clear hEb k1
  have hok := ok_plain (e := ⟨7, n, eto, keep, ef, ⟨ck, ⟨R, N⟩, p, m, tx, cf, ⟨R2, N2⟩⟩⟩) (told := ⟨7, n, 0, 0, false, ⟨0, ⟨0, 0⟩, 0, 0, [], false, ⟨0, 0⟩⟩⟩) (show (7 : Int) ≠ 1 by decide) rfl (Nat.zero_lt_succ _)
  have hli : Off.evLine ⟨7, n, eto, keep, ef, ⟨ck, ⟨R, N⟩, p, m, tx, cf, ⟨R2, N2⟩⟩⟩ = [115, 116, 97, 114, 116, 32] ++ Lib.itoa n := by show [115, 116, 97, 114, 116] ++ 32 :: Lib.itoa n = _; simp
  have m0 : ¬ 9223372036854775807 < 6 + (Lib.itoa n).length := by omega
  have hcat : ByteArray.mk #[115, 116, 97, 114, 116, 32] ++ ByteArray.mk (Lib.itoa n).toArray = ByteArray.mk (List.toArray ([115, 116, 97, 114, 116, 32] ++ Lib.itoa n)) := by
    rw [bytes_app]
    refine congrArg ByteArray.mk ?_
    apply Array.ext'
    simp
  have hne : (([115, 116, 97, 114, 116, 32] ++ Lib.itoa n : List UInt8) == []) = false := rfl
  obtain ⟨LN, hLN⟩ : ∃ LN : List UInt8, [115, 116, 97, 114, 116, 32] ++ Lib.itoa n = LN := ⟨_, rfl⟩
  rw [hLN] at hcat hne
  have HLN := Lib.hid hLN
  have Hli := Lib.hid hli
  clear hLN hli
  cases hq : evSame ⟨7, n, 0, 0, false, ⟨0, ⟨0, 0⟩, 0, 0, [], false, ⟨0, 0⟩⟩⟩ ⟨7, n, eto, keep, ef, ⟨ck, ⟨R, N⟩, p, m, tx, cf, ⟨R2, N2⟩⟩⟩ with
  | true =>
    rw [hq] at hok
    have Hok := Lib.hid hok
    clear hok
    go_wp2_with fail
    go_ret2
    exact RLinePost.yes Hok.out (Hli.out.trans HLN.out) rfl (K1.alloc _)
  | false =>
    rw [hq] at hok
    have Hok := Lib.hid hok
    clear hok
    go_wp2_with fail
    go_ret2
    exact RLinePost.no Hok.out rfl (K1.alloc _)

set_option maxRecDepth 100000 in
set_option maxHeartbeats 4000000 in
theorem rline_drop (n eto keep : Int) (ef : Bool) (ck R N p m : Int) (tx : List UInt8) (cf : Bool) (R2 N2 : Int) (w : World) (hE : Env w) (hF : EvFits ⟨5, n, eto, keep, ef, ⟨ck, ⟨R, N⟩, p, m, tx, cf, ⟨R2, N2⟩⟩⟩) :
    Calls Tryz.prog 39 #[evV ⟨5, n, eto, keep, ef, ⟨ck, ⟨R, N⟩, p, m, tx, cf, ⟨R2, N2⟩⟩⟩] w (RLinePost ⟨5, n, eto, keep, ef, ⟨ck, ⟨R, N⟩, p, m, tx, cf, ⟨R2, N2⟩⟩⟩ w) := by
  have hz := hE.size
  obtain ⟨hn, hto, hkeep, hC⟩ := hF
  simp only at hn hto hkeep
  have ln := itoa_len n hn
  have gE := guardEv
  have qE := eqEvMax
  have hEb := hE.alloc (.cells #[.int .i64 5, .int .i64 n, .int .i64 eto, .int .i64 keep, .bool ef, .int .i64 ck, .int .i64 R, .int .i64 N, .int .i64 p, .int .i64 m, .string ⟨tx.toArray⟩, .bool cf, .int .i64 R2, .int .i64 N2] 79)
  go_enter Tryz.func39, Tryz.ntmps39
  go_wp2_with fail
  refine (refNumber_any n hn _).mono ?_
  rintro e w1 ⟨rfl, k1⟩
  have b0 : w1.heap[w.heap.size]? = some (.cells #[.int .i64 5, .int .i64 n, .int .i64 eto, .int .i64 keep, .bool ef, .int .i64 ck, .int .i64 R, .int .i64 N, .int .i64 p, .int .i64 m, .string ⟨tx.toArray⟩, .bool cf, .int .i64 R2, .int .i64 N2] 79 (0, 0)) := k1.own id
  have K1 : Keeps No w w1 := ((Keeps.refl _ _).alloc _).trans k1
  have hE1 : Env w1 := hEb.no k1
  have c0 := Lib.cell_of_heap b0
  have lt1 : w.heap.size < w1.heap.size := heap_lt b0
  have ne1 : ¬ w.heap.size = w1.heap.size := by omega
  clear hEb k1
  have hok := ok_plain (e := ⟨5, n, eto, keep, ef, ⟨ck, ⟨R, N⟩, p, m, tx, cf, ⟨R2, N2⟩⟩⟩) (told := ⟨5, n, 0, 0, false, ⟨0, ⟨0, 0⟩, 0, 0, [], false, ⟨0, 0⟩⟩⟩) (show (5 : Int) ≠ 1 by decide) rfl (Nat.zero_lt_succ _)
  have hli : Off.evLine ⟨5, n, eto, keep, ef, ⟨ck, ⟨R, N⟩, p, m, tx, cf, ⟨R2, N2⟩⟩⟩ = [100, 114, 111, 112, 32] ++ Lib.itoa n := by show [100, 114, 111, 112] ++ 32 :: Lib.itoa n = _; simp
  have m0 : ¬ 9223372036854775807 < 5 + (Lib.itoa n).length := by omega
  have hcat : ByteArray.mk #[100, 114, 111, 112, 32] ++ ByteArray.mk (Lib.itoa n).toArray = ByteArray.mk (List.toArray ([100, 114, 111, 112, 32] ++ Lib.itoa n)) := by
    rw [bytes_app]
    refine congrArg ByteArray.mk ?_
    apply Array.ext'
    simp
  have hne : (([100, 114, 111, 112, 32] ++ Lib.itoa n : List UInt8) == []) = false := rfl
  obtain ⟨LN, hLN⟩ : ∃ LN : List UInt8, [100, 114, 111, 112, 32] ++ Lib.itoa n = LN := ⟨_, rfl⟩
  rw [hLN] at hcat hne
  have HLN := Lib.hid hLN
  have Hli := Lib.hid hli
  clear hLN hli
  cases hq : evSame ⟨5, n, 0, 0, false, ⟨0, ⟨0, 0⟩, 0, 0, [], false, ⟨0, 0⟩⟩⟩ ⟨5, n, eto, keep, ef, ⟨ck, ⟨R, N⟩, p, m, tx, cf, ⟨R2, N2⟩⟩⟩ with
  | true =>
    rw [hq] at hok
    have Hok := Lib.hid hok
    clear hok
    go_wp2_with fail
    go_ret2
    exact RLinePost.yes Hok.out (Hli.out.trans HLN.out) rfl (K1.alloc _)
  | false =>
    rw [hq] at hok
    have Hok := Lib.hid hok
    clear hok
    go_wp2_with fail
    go_ret2
    exact RLinePost.no Hok.out rfl (K1.alloc _)

set_option maxRecDepth 100000 in
set_option maxHeartbeats 4000000 in
theorem rline_crash (n eto keep : Int) (ef : Bool) (ck R N p m : Int) (tx : List UInt8) (cf : Bool) (R2 N2 : Int) (w : World) (hE : Env w) (hF : EvFits ⟨6, n, eto, keep, ef, ⟨ck, ⟨R, N⟩, p, m, tx, cf, ⟨R2, N2⟩⟩⟩) :
    Calls Tryz.prog 39 #[evV ⟨6, n, eto, keep, ef, ⟨ck, ⟨R, N⟩, p, m, tx, cf, ⟨R2, N2⟩⟩⟩] w (RLinePost ⟨6, n, eto, keep, ef, ⟨ck, ⟨R, N⟩, p, m, tx, cf, ⟨R2, N2⟩⟩⟩ w) := by
  have hz := hE.size
  obtain ⟨hn, hto, hkeep, hC⟩ := hF
  simp only at hn hto hkeep
  have ln := itoa_len n hn
  have gE := guardEv
  have qE := eqEvMax
  have hEb := hE.alloc (.cells #[.int .i64 6, .int .i64 n, .int .i64 eto, .int .i64 keep, .bool ef, .int .i64 ck, .int .i64 R, .int .i64 N, .int .i64 p, .int .i64 m, .string ⟨tx.toArray⟩, .bool cf, .int .i64 R2, .int .i64 N2] 79)
  go_enter Tryz.func39, Tryz.ntmps39
  go_wp2_with fail
  refine (refNumber_any n hn _).mono ?_
  rintro e w1 ⟨rfl, k1⟩
  have b0 : w1.heap[w.heap.size]? = some (.cells #[.int .i64 6, .int .i64 n, .int .i64 eto, .int .i64 keep, .bool ef, .int .i64 ck, .int .i64 R, .int .i64 N, .int .i64 p, .int .i64 m, .string ⟨tx.toArray⟩, .bool cf, .int .i64 R2, .int .i64 N2] 79 (0, 0)) := k1.own id
  have K1 : Keeps No w w1 := ((Keeps.refl _ _).alloc _).trans k1
  have hE1 : Env w1 := hEb.no k1
  have c0 := Lib.cell_of_heap b0
  have lt1 : w.heap.size < w1.heap.size := heap_lt b0
  have ne1 : ¬ w.heap.size = w1.heap.size := by omega
  clear hEb k1
  have hok := ok_plain (e := ⟨6, n, eto, keep, ef, ⟨ck, ⟨R, N⟩, p, m, tx, cf, ⟨R2, N2⟩⟩⟩) (told := ⟨6, n, 0, keep, false, ⟨0, ⟨0, 0⟩, 0, 0, [], false, ⟨0, 0⟩⟩⟩) (show (6 : Int) ≠ 1 by decide) rfl (Nat.zero_lt_succ _)
  have hli : Off.evLine ⟨6, n, eto, keep, ef, ⟨ck, ⟨R, N⟩, p, m, tx, cf, ⟨R2, N2⟩⟩⟩ = [99, 114, 97, 115, 104, 32] ++ Lib.itoa n ++ [32] ++ Lib.itoa keep := by show [99, 114, 97, 115, 104] ++ 32 :: (Lib.itoa n ++ 32 :: Lib.itoa keep) = _; simp
  have lk := itoa_len keep hkeep
  have m0 : ¬ 9223372036854775807 < 6 + (Lib.itoa n).length := by omega
  have m1 : ¬ 9223372036854775807 < 6 + (Lib.itoa n).length + 1 := by omega
  have m2 : ¬ 9223372036854775807 < 6 + (Lib.itoa n).length + 1 + (Lib.itoa keep).length := by omega
  have hcat : ByteArray.mk #[99, 114, 97, 115, 104, 32] ++ ByteArray.mk (Lib.itoa n).toArray ++ ByteArray.mk #[32] ++ ByteArray.mk (Lib.itoa keep).toArray = ByteArray.mk (List.toArray ([99, 114, 97, 115, 104, 32] ++ Lib.itoa n ++ [32] ++ Lib.itoa keep)) := by
    rw [bytes_app, bytes_app, bytes_app]
    refine congrArg ByteArray.mk ?_
    apply Array.ext'
    simp
  have hne : (([99, 114, 97, 115, 104, 32] ++ Lib.itoa n ++ [32] ++ Lib.itoa keep : List UInt8) == []) = false := rfl
  obtain ⟨LN, hLN⟩ : ∃ LN : List UInt8, [99, 114, 97, 115, 104, 32] ++ Lib.itoa n ++ [32] ++ Lib.itoa keep = LN := ⟨_, rfl⟩
  rw [hLN] at hcat hne
  have HLN := Lib.hid hLN
  have Hli := Lib.hid hli
  clear hLN hli
  cases hq : evSame ⟨6, n, 0, keep, false, ⟨0, ⟨0, 0⟩, 0, 0, [], false, ⟨0, 0⟩⟩⟩ ⟨6, n, eto, keep, ef, ⟨ck, ⟨R, N⟩, p, m, tx, cf, ⟨R2, N2⟩⟩⟩ with
  | true =>
    rw [hq] at hok
    have Hok := Lib.hid hok
    clear hok
    go_wp2_with fail
    refine (refNumber_any keep hkeep _).mono ?_
    rintro e w2 ⟨rfl, k2⟩
    have b2 := k2.heap (heap_alloc_keep b0 _) id
    have t2 := k2.heap (heap_alloc_new w1 _) id
    have c2 := Lib.cell_of_heap b2
    have d2 := Lib.cell_of_heap t2
    have KF : Keeps No w w2 := (K1.alloc _).trans k2
    clear c0
    go_wp2
    go_ret2
    exact RLinePost.yes Hok.out (Hli.out.trans HLN.out) rfl KF
  | false =>
    rw [hq] at hok
    have Hok := Lib.hid hok
    clear hok
    go_wp2_with fail
    refine (refNumber_any keep hkeep _).mono ?_
    rintro e w2 ⟨rfl, k2⟩
    have b2 := k2.heap (heap_alloc_keep b0 _) id
    have t2 := k2.heap (heap_alloc_new w1 _) id
    have c2 := Lib.cell_of_heap b2
    have d2 := Lib.cell_of_heap t2
    have KF : Keeps No w w2 := (K1.alloc _).trans k2
    clear c0
    go_wp2
    go_ret2
    exact RLinePost.no Hok.out rfl KF

set_option maxRecDepth 100000 in
set_option maxHeartbeats 4000000 in
theorem rline_tell (n eto keep : Int) (ef : Bool) (ck R N p m : Int) (tx : List UInt8) (cf : Bool) (R2 N2 : Int) (w : World) (hE : Env w) (hF : EvFits ⟨3, n, eto, keep, ef, ⟨ck, ⟨R, N⟩, p, m, tx, cf, ⟨R2, N2⟩⟩⟩) :
    Calls Tryz.prog 39 #[evV ⟨3, n, eto, keep, ef, ⟨ck, ⟨R, N⟩, p, m, tx, cf, ⟨R2, N2⟩⟩⟩] w (RLinePost ⟨3, n, eto, keep, ef, ⟨ck, ⟨R, N⟩, p, m, tx, cf, ⟨R2, N2⟩⟩⟩ w) := by
  have hz := hE.size
  obtain ⟨hn, hto, hkeep, hC⟩ := hF
  simp only at hn hto hkeep
  have ln := itoa_len n hn
  have gE := guardEv
  have qE := eqEvMax
  have hEb := hE.alloc (.cells #[.int .i64 3, .int .i64 n, .int .i64 eto, .int .i64 keep, .bool ef, .int .i64 ck, .int .i64 R, .int .i64 N, .int .i64 p, .int .i64 m, .string ⟨tx.toArray⟩, .bool cf, .int .i64 R2, .int .i64 N2] 79)
  go_enter Tryz.func39, Tryz.ntmps39
  go_wp2_with fail
  refine (refNumber_any n hn _).mono ?_
  rintro e w1 ⟨rfl, k1⟩
  have b0 : w1.heap[w.heap.size]? = some (.cells #[.int .i64 3, .int .i64 n, .int .i64 eto, .int .i64 keep, .bool ef, .int .i64 ck, .int .i64 R, .int .i64 N, .int .i64 p, .int .i64 m, .string ⟨tx.toArray⟩, .bool cf, .int .i64 R2, .int .i64 N2] 79 (0, 0)) := k1.own id
  have K1 : Keeps No w w1 := ((Keeps.refl _ _).alloc _).trans k1
  have hE1 : Env w1 := hEb.no k1
  have c0 := Lib.cell_of_heap b0
  have lt1 : w.heap.size < w1.heap.size := heap_lt b0
  have ne1 : ¬ w.heap.size = w1.heap.size := by omega
  clear hEb k1
  have hok := ok_plain (e := ⟨3, n, eto, keep, ef, ⟨ck, ⟨R, N⟩, p, m, tx, cf, ⟨R2, N2⟩⟩⟩) (told := ⟨3, n, eto, 0, false, ⟨0, ⟨0, 0⟩, 0, 0, [], false, ⟨0, 0⟩⟩⟩) (show (3 : Int) ≠ 1 by decide) rfl (Nat.zero_lt_succ _)
  have hli : Off.evLine ⟨3, n, eto, keep, ef, ⟨ck, ⟨R, N⟩, p, m, tx, cf, ⟨R2, N2⟩⟩⟩ = [116, 101, 108, 108, 32] ++ Lib.itoa n ++ [32] ++ Lib.itoa eto := by show [116, 101, 108, 108] ++ 32 :: (Lib.itoa n ++ 32 :: Lib.itoa eto) = _; simp
  have lk := itoa_len eto hto
  have m0 : ¬ 9223372036854775807 < 5 + (Lib.itoa n).length := by omega
  have m1 : ¬ 9223372036854775807 < 5 + (Lib.itoa n).length + 1 := by omega
  have m2 : ¬ 9223372036854775807 < 5 + (Lib.itoa n).length + 1 + (Lib.itoa eto).length := by omega
  have hcat : ByteArray.mk #[116, 101, 108, 108, 32] ++ ByteArray.mk (Lib.itoa n).toArray ++ ByteArray.mk #[32] ++ ByteArray.mk (Lib.itoa eto).toArray = ByteArray.mk (List.toArray ([116, 101, 108, 108, 32] ++ Lib.itoa n ++ [32] ++ Lib.itoa eto)) := by
    rw [bytes_app, bytes_app, bytes_app]
    refine congrArg ByteArray.mk ?_
    apply Array.ext'
    simp
  have hne : (([116, 101, 108, 108, 32] ++ Lib.itoa n ++ [32] ++ Lib.itoa eto : List UInt8) == []) = false := rfl
  obtain ⟨LN, hLN⟩ : ∃ LN : List UInt8, [116, 101, 108, 108, 32] ++ Lib.itoa n ++ [32] ++ Lib.itoa eto = LN := ⟨_, rfl⟩
  rw [hLN] at hcat hne
  have HLN := Lib.hid hLN
  have Hli := Lib.hid hli
  clear hLN hli
  cases hq : evSame ⟨3, n, eto, 0, false, ⟨0, ⟨0, 0⟩, 0, 0, [], false, ⟨0, 0⟩⟩⟩ ⟨3, n, eto, keep, ef, ⟨ck, ⟨R, N⟩, p, m, tx, cf, ⟨R2, N2⟩⟩⟩ with
  | true =>
    rw [hq] at hok
    have Hok := Lib.hid hok
    clear hok
    go_wp2_with fail
    refine (refNumber_any eto hto _).mono ?_
    rintro e w2 ⟨rfl, k2⟩
    have b2 := k2.heap (heap_alloc_keep b0 _) id
    have t2 := k2.heap (heap_alloc_new w1 _) id
    have c2 := Lib.cell_of_heap b2
    have d2 := Lib.cell_of_heap t2
    have KF : Keeps No w w2 := (K1.alloc _).trans k2
    clear c0
    go_wp2
    go_ret2
    exact RLinePost.yes Hok.out (Hli.out.trans HLN.out) rfl KF
  | false =>
    rw [hq] at hok
    have Hok := Lib.hid hok
    clear hok
    go_wp2_with fail
    refine (refNumber_any eto hto _).mono ?_
    rintro e w2 ⟨rfl, k2⟩
    have b2 := k2.heap (heap_alloc_keep b0 _) id
    have t2 := k2.heap (heap_alloc_new w1 _) id
    have c2 := Lib.cell_of_heap b2
    have d2 := Lib.cell_of_heap t2
    have KF : Keeps No w w2 := (K1.alloc _).trans k2
    clear c0
    go_wp2
    go_ret2
    exact RLinePost.no Hok.out rfl KF

set_option maxRecDepth 100000 in
set_option maxHeartbeats 4000000 in
theorem rline_deliver (n eto keep : Int) (ck R N p m : Int) (tx : List UInt8) (cf : Bool) (R2 N2 : Int) (w : World) (hE : Env w) (hF : EvFits ⟨4, n, eto, keep, false, ⟨ck, ⟨R, N⟩, p, m, tx, cf, ⟨R2, N2⟩⟩⟩) :
    Calls Tryz.prog 39 #[evV ⟨4, n, eto, keep, false, ⟨ck, ⟨R, N⟩, p, m, tx, cf, ⟨R2, N2⟩⟩⟩] w (RLinePost ⟨4, n, eto, keep, false, ⟨ck, ⟨R, N⟩, p, m, tx, cf, ⟨R2, N2⟩⟩⟩ w) := by
  have hz := hE.size
  obtain ⟨hn, hto, hkeep, hC⟩ := hF
  simp only at hn hto hkeep
  have ln := itoa_len n hn
  have gE := guardEv
  have qE := eqEvMax
  have hEb := hE.alloc (.cells #[.int .i64 4, .int .i64 n, .int .i64 eto, .int .i64 keep, .bool false, .int .i64 ck, .int .i64 R, .int .i64 N, .int .i64 p, .int .i64 m, .string ⟨tx.toArray⟩, .bool cf, .int .i64 R2, .int .i64 N2] 79)
  go_enter Tryz.func39, Tryz.ntmps39
  go_wp2_with fail
  refine (refNumber_any n hn _).mono ?_
  rintro e w1 ⟨rfl, k1⟩
  have b0 : w1.heap[w.heap.size]? = some (.cells #[.int .i64 4, .int .i64 n, .int .i64 eto, .int .i64 keep, .bool false, .int .i64 ck, .int .i64 R, .int .i64 N, .int .i64 p, .int .i64 m, .string ⟨tx.toArray⟩, .bool cf, .int .i64 R2, .int .i64 N2] 79 (0, 0)) := k1.own id
  have K1 : Keeps No w w1 := ((Keeps.refl _ _).alloc _).trans k1
  have hE1 : Env w1 := hEb.no k1
  have c0 := Lib.cell_of_heap b0
  have lt1 : w.heap.size < w1.heap.size := heap_lt b0
  have ne1 : ¬ w.heap.size = w1.heap.size := by omega
  clear hEb k1
  have hok := ok_plain (e := ⟨4, n, eto, keep, false, ⟨ck, ⟨R, N⟩, p, m, tx, cf, ⟨R2, N2⟩⟩⟩) (told := ⟨4, n, 0, 0, false, ⟨0, ⟨0, 0⟩, 0, 0, [], false, ⟨0, 0⟩⟩⟩) (show (4 : Int) ≠ 1 by decide) rfl (Nat.zero_lt_succ _)
  have hli : Off.evLine ⟨4, n, eto, keep, false, ⟨ck, ⟨R, N⟩, p, m, tx, cf, ⟨R2, N2⟩⟩⟩ = [100, 101, 108, 105, 118, 101, 114, 32] ++ Lib.itoa n := by show [100, 101, 108, 105, 118, 101, 114] ++ 32 :: Lib.itoa n = _; simp
  have m0 : ¬ 9223372036854775807 < 8 + (Lib.itoa n).length := by omega
  have hcat : ByteArray.mk #[100, 101, 108, 105, 118, 101, 114, 32] ++ ByteArray.mk (Lib.itoa n).toArray = ByteArray.mk (List.toArray ([100, 101, 108, 105, 118, 101, 114, 32] ++ Lib.itoa n)) := by
    rw [bytes_app]
    refine congrArg ByteArray.mk ?_
    apply Array.ext'
    simp
  have hne : (([100, 101, 108, 105, 118, 101, 114, 32] ++ Lib.itoa n : List UInt8) == []) = false := rfl
  obtain ⟨LN, hLN⟩ : ∃ LN : List UInt8, [100, 101, 108, 105, 118, 101, 114, 32] ++ Lib.itoa n = LN := ⟨_, rfl⟩
  rw [hLN] at hcat hne
  have HLN := Lib.hid hLN
  have Hli := Lib.hid hli
  clear hLN hli
  cases hq : evSame ⟨4, n, 0, 0, false, ⟨0, ⟨0, 0⟩, 0, 0, [], false, ⟨0, 0⟩⟩⟩ ⟨4, n, eto, keep, false, ⟨ck, ⟨R, N⟩, p, m, tx, cf, ⟨R2, N2⟩⟩⟩ with
  | true =>
    rw [hq] at hok
    have Hok := Lib.hid hok
    clear hok
    go_wp2_with fail
    go_ret2
    exact RLinePost.yes Hok.out (Hli.out.trans HLN.out) rfl (K1.alloc _)
  | false =>
    rw [hq] at hok
    have Hok := Lib.hid hok
    clear hok
    go_wp2_with fail
    go_ret2
    exact RLinePost.no Hok.out rfl (K1.alloc _)

set_option maxRecDepth 100000 in
set_option maxHeartbeats 4000000 in
theorem rline_copy (n eto keep : Int) (ck R N p m : Int) (tx : List UInt8) (cf : Bool) (R2 N2 : Int) (w : World) (hE : Env w) (hF : EvFits ⟨4, n, eto, keep, true, ⟨ck, ⟨R, N⟩, p, m, tx, cf, ⟨R2, N2⟩⟩⟩) :
    Calls Tryz.prog 39 #[evV ⟨4, n, eto, keep, true, ⟨ck, ⟨R, N⟩, p, m, tx, cf, ⟨R2, N2⟩⟩⟩] w (RLinePost ⟨4, n, eto, keep, true, ⟨ck, ⟨R, N⟩, p, m, tx, cf, ⟨R2, N2⟩⟩⟩ w) := by
  have hz := hE.size
  obtain ⟨hn, hto, hkeep, hC⟩ := hF
  simp only at hn hto hkeep
  have ln := itoa_len n hn
  have gE := guardEv
  have qE := eqEvMax
  have hEb := hE.alloc (.cells #[.int .i64 4, .int .i64 n, .int .i64 eto, .int .i64 keep, .bool true, .int .i64 ck, .int .i64 R, .int .i64 N, .int .i64 p, .int .i64 m, .string ⟨tx.toArray⟩, .bool cf, .int .i64 R2, .int .i64 N2] 79)
  go_enter Tryz.func39, Tryz.ntmps39
  go_wp2_with fail
  refine (refNumber_any n hn _).mono ?_
  rintro e w1 ⟨rfl, k1⟩
  have b0 : w1.heap[w.heap.size]? = some (.cells #[.int .i64 4, .int .i64 n, .int .i64 eto, .int .i64 keep, .bool true, .int .i64 ck, .int .i64 R, .int .i64 N, .int .i64 p, .int .i64 m, .string ⟨tx.toArray⟩, .bool cf, .int .i64 R2, .int .i64 N2] 79 (0, 0)) := k1.own id
  have K1 : Keeps No w w1 := ((Keeps.refl _ _).alloc _).trans k1
  have hE1 : Env w1 := hEb.no k1
  have c0 := Lib.cell_of_heap b0
  have lt1 : w.heap.size < w1.heap.size := heap_lt b0
  have ne1 : ¬ w.heap.size = w1.heap.size := by omega
  clear hEb k1
  have hok := ok_plain (e := ⟨4, n, eto, keep, true, ⟨ck, ⟨R, N⟩, p, m, tx, cf, ⟨R2, N2⟩⟩⟩) (told := ⟨4, n, 0, 0, true, ⟨0, ⟨0, 0⟩, 0, 0, [], false, ⟨0, 0⟩⟩⟩) (show (4 : Int) ≠ 1 by decide) rfl (Nat.zero_lt_succ _)
  have hli : Off.evLine ⟨4, n, eto, keep, true, ⟨ck, ⟨R, N⟩, p, m, tx, cf, ⟨R2, N2⟩⟩⟩ = [99, 111, 112, 121, 32] ++ Lib.itoa n := by show [99, 111, 112, 121] ++ 32 :: Lib.itoa n = _; simp
  have m0 : ¬ 9223372036854775807 < 5 + (Lib.itoa n).length := by omega
  have hcat : ByteArray.mk #[99, 111, 112, 121, 32] ++ ByteArray.mk (Lib.itoa n).toArray = ByteArray.mk (List.toArray ([99, 111, 112, 121, 32] ++ Lib.itoa n)) := by
    rw [bytes_app]
    refine congrArg ByteArray.mk ?_
    apply Array.ext'
    simp
  have hne : (([99, 111, 112, 121, 32] ++ Lib.itoa n : List UInt8) == []) = false := rfl
  obtain ⟨LN, hLN⟩ : ∃ LN : List UInt8, [99, 111, 112, 121, 32] ++ Lib.itoa n = LN := ⟨_, rfl⟩
  rw [hLN] at hcat hne
  have HLN := Lib.hid hLN
  have Hli := Lib.hid hli
  clear hLN hli
  cases hq : evSame ⟨4, n, 0, 0, true, ⟨0, ⟨0, 0⟩, 0, 0, [], false, ⟨0, 0⟩⟩⟩ ⟨4, n, eto, keep, true, ⟨ck, ⟨R, N⟩, p, m, tx, cf, ⟨R2, N2⟩⟩⟩ with
  | true =>
    rw [hq] at hok
    have Hok := Lib.hid hok
    clear hok
    go_wp2_with fail
    go_ret2
    exact RLinePost.yes Hok.out (Hli.out.trans HLN.out) rfl (K1.alloc _)
  | false =>
    rw [hq] at hok
    have Hok := Lib.hid hok
    clear hok
    go_wp2_with fail
    go_ret2
    exact RLinePost.no Hok.out rfl (K1.alloc _)

set_option maxRecDepth 100000 in
set_option maxHeartbeats 4000000 in
theorem rline_do_kind (n eto keep : Int) (ef : Bool) (ck R N p m : Int) (tx : List UInt8) (cf : Bool) (R2 N2 : Int) (w : World) (hE : Env w) (hF : EvFits ⟨1, n, eto, keep, ef, ⟨ck, ⟨R, N⟩, p, m, tx, cf, ⟨R2, N2⟩⟩⟩) (hr : ¬ (1 ≤ ck ∧ ck ≤ 14)) :
    Calls Tryz.prog 39 #[evV ⟨1, n, eto, keep, ef, ⟨ck, ⟨R, N⟩, p, m, tx, cf, ⟨R2, N2⟩⟩⟩] w (RLinePost ⟨1, n, eto, keep, ef, ⟨ck, ⟨R, N⟩, p, m, tx, cf, ⟨R2, N2⟩⟩⟩ w) := by
  have hz := hE.size
  obtain ⟨hn, hto, hkeep, hC⟩ := hF
  simp only at hn hto hkeep
  have ln := itoa_len n hn
  have gE := guardEv
  have qE := eqEvMax
  have hEb := hE.alloc (.cells #[.int .i64 1, .int .i64 n, .int .i64 eto, .int .i64 keep, .bool ef, .int .i64 ck, .int .i64 R, .int .i64 N, .int .i64 p, .int .i64 m, .string ⟨tx.toArray⟩, .bool cf, .int .i64 R2, .int .i64 N2] 79)
  go_enter Tryz.func39, Tryz.ntmps39
  go_wp2_with fail
  refine (refNumber_any n hn _).mono ?_
  rintro e w1 ⟨rfl, k1⟩
  have b0 : w1.heap[w.heap.size]? = some (.cells #[.int .i64 1, .int .i64 n, .int .i64 eto, .int .i64 keep, .bool ef, .int .i64 ck, .int .i64 R, .int .i64 N, .int .i64 p, .int .i64 m, .string ⟨tx.toArray⟩, .bool cf, .int .i64 R2, .int .i64 N2] 79 (0, 0)) := k1.own id
  have K1 : Keeps No w w1 := ((Keeps.refl _ _).alloc _).trans k1
  have hE1 : Env w1 := hEb.no k1
  have c0 := Lib.cell_of_heap b0
  have lt1 : w.heap.size < w1.heap.size := heap_lt b0
  have ne1 : ¬ w.heap.size = w1.heap.size := by omega
  clear hEb k1
  have Hok := Lib.hid (do_bad n eto keep ef ⟨ck, ⟨R, N⟩, p, m, tx, cf, ⟨R2, N2⟩⟩ (.inl hr))
  have hr' : ck < 1 ∨ (¬ ck < 1 ∧ 14 < ck) := by omega
  rcases hr' with h1 | ⟨h1, h2⟩
  all_goals
    go_wp2
    go_ret2
    exact RLinePost.no Hok.out rfl (K1.alloc _)

set_option maxRecDepth 100000 in
set_option maxHeartbeats 4000000 in
theorem rline_do_block (n eto keep : Int) (ef : Bool) (ck R N p m : Int) (tx : List UInt8) (cf : Bool) (R2 N2 : Int) (w : World) (hE : Env w) (hF : EvFits ⟨1, n, eto, keep, ef, ⟨ck, ⟨R, N⟩, p, m, tx, cf, ⟨R2, N2⟩⟩⟩) (hr : 1 ≤ ck ∧ ck ≤ 14) (hb : Off.rightBlock ⟨R, N⟩ = false) :
    Calls Tryz.prog 39 #[evV ⟨1, n, eto, keep, ef, ⟨ck, ⟨R, N⟩, p, m, tx, cf, ⟨R2, N2⟩⟩⟩] w (RLinePost ⟨1, n, eto, keep, ef, ⟨ck, ⟨R, N⟩, p, m, tx, cf, ⟨R2, N2⟩⟩⟩ w) := by
  have hz := hE.size
  obtain ⟨hn, hto, hkeep, hC⟩ := hF
  simp only at hn hto hkeep
  have ln := itoa_len n hn
  have gE := guardEv
  have qE := eqEvMax
  have hEb := hE.alloc (.cells #[.int .i64 1, .int .i64 n, .int .i64 eto, .int .i64 keep, .bool ef, .int .i64 ck, .int .i64 R, .int .i64 N, .int .i64 p, .int .i64 m, .string ⟨tx.toArray⟩, .bool cf, .int .i64 R2, .int .i64 N2] 79)
  go_enter Tryz.func39, Tryz.ntmps39
  go_wp2_with fail
  refine (refNumber_any n hn _).mono ?_
  rintro e w1 ⟨rfl, k1⟩
  have b0 : w1.heap[w.heap.size]? = some (.cells #[.int .i64 1, .int .i64 n, .int .i64 eto, .int .i64 keep, .bool ef, .int .i64 ck, .int .i64 R, .int .i64 N, .int .i64 p, .int .i64 m, .string ⟨tx.toArray⟩, .bool cf, .int .i64 R2, .int .i64 N2] 79 (0, 0)) := k1.own id
  have K1 : Keeps No w w1 := ((Keeps.refl _ _).alloc _).trans k1
  have hE1 : Env w1 := hEb.no k1
  have c0 := Lib.cell_of_heap b0
  have lt1 : w.heap.size < w1.heap.size := heap_lt b0
  have ne1 : ¬ w.heap.size = w1.heap.size := by omega
  clear hEb k1
  have Hok := Lib.hid (do_bad n eto keep ef ⟨ck, ⟨R, N⟩, p, m, tx, cf, ⟨R2, N2⟩⟩ (.inr (.inl hb)))
  have cB := fun w1 => refRightBlock_any R N w1
  rw [hb] at cB
  have r1 : ¬ ck < 1 := by omega
  have r2 : ¬ 14 < ck := by omega
  clear hb
  go_wp2_with fail
  refine (cB _).mono ?_
  rintro e w2 ⟨rfl, k2⟩
  have b2 := k2.heap (heap_alloc_keep b0 (.cells #[.int .i64 1, .int .i64 n, .int .i64 0, .int .i64 0, .bool false, .int .i64 0, .int .i64 0, .int .i64 0, .int .i64 0, .int .i64 0, .string ⟨#[]⟩, .bool false, .int .i64 0, .int .i64 0] 79)) id
  have t2 := k2.heap (heap_alloc_new w1 (.cells #[.int .i64 1, .int .i64 n, .int .i64 0, .int .i64 0, .bool false, .int .i64 0, .int .i64 0, .int .i64 0, .int .i64 0, .int .i64 0, .string ⟨#[]⟩, .bool false, .int .i64 0, .int .i64 0] 79)) id
  have c2 := Lib.cell_of_heap b2
  have d2 := Lib.cell_of_heap t2
  have K2 := (K1.alloc (.cells #[.int .i64 1, .int .i64 n, .int .i64 0, .int .i64 0, .bool false, .int .i64 0, .int .i64 0, .int .i64 0, .int .i64 0, .int .i64 0, .string ⟨#[]⟩, .bool false, .int .i64 0, .int .i64 0] 79)).trans k2
  clear c0 cB
  go_wp2
  go_ret2
  exact RLinePost.no Hok.out rfl K2

set_option maxRecDepth 100000 in
set_option maxHeartbeats 4000000 in
theorem rline_do_other (n eto keep : Int) (ef : Bool) (ck R N p m : Int) (tx : List UInt8) (cf : Bool) (R2 N2 : Int) (w : World) (hE : Env w) (hF : EvFits ⟨1, n, eto, keep, ef, ⟨ck, ⟨R, N⟩, p, m, tx, cf, ⟨R2, N2⟩⟩⟩) (hr : 1 ≤ ck ∧ ck ≤ 14) (hb : Off.rightBlock ⟨R, N⟩ = true) (hb2 : Off.rightBlock ⟨R2, N2⟩ = false) :
    Calls Tryz.prog 39 #[evV ⟨1, n, eto, keep, ef, ⟨ck, ⟨R, N⟩, p, m, tx, cf, ⟨R2, N2⟩⟩⟩] w (RLinePost ⟨1, n, eto, keep, ef, ⟨ck, ⟨R, N⟩, p, m, tx, cf, ⟨R2, N2⟩⟩⟩ w) := by
  have hz := hE.size
  obtain ⟨hn, hto, hkeep, hC⟩ := hF
  simp only at hn hto hkeep
  have ln := itoa_len n hn
  have gE := guardEv
  have qE := eqEvMax
  have hEb := hE.alloc (.cells #[.int .i64 1, .int .i64 n, .int .i64 eto, .int .i64 keep, .bool ef, .int .i64 ck, .int .i64 R, .int .i64 N, .int .i64 p, .int .i64 m, .string ⟨tx.toArray⟩, .bool cf, .int .i64 R2, .int .i64 N2] 79)
  go_enter Tryz.func39, Tryz.ntmps39
  go_wp2_with fail
  refine (refNumber_any n hn _).mono ?_
  rintro e w1 ⟨rfl, k1⟩
  have b0 : w1.heap[w.heap.size]? = some (.cells #[.int .i64 1, .int .i64 n, .int .i64 eto, .int .i64 keep, .bool ef, .int .i64 ck, .int .i64 R, .int .i64 N, .int .i64 p, .int .i64 m, .string ⟨tx.toArray⟩, .bool cf, .int .i64 R2, .int .i64 N2] 79 (0, 0)) := k1.own id
  have K1 : Keeps No w w1 := ((Keeps.refl _ _).alloc _).trans k1
  have hE1 : Env w1 := hEb.no k1
  have c0 := Lib.cell_of_heap b0
  have lt1 : w.heap.size < w1.heap.size := heap_lt b0
  have ne1 : ¬ w.heap.size = w1.heap.size := by omega
  clear hEb k1
  have Hok := Lib.hid (do_bad n eto keep ef ⟨ck, ⟨R, N⟩, p, m, tx, cf, ⟨R2, N2⟩⟩ (.inr (.inr hb2)))
  have cB := fun w1 => refRightBlock_any R N w1
  rw [hb] at cB
  have cB2 := fun w1 => refRightBlock_any R2 N2 w1
  rw [hb2] at cB2
  have r1 : ¬ ck < 1 := by omega
  have r2 : ¬ 14 < ck := by omega
  clear hb hb2
  go_wp2_with fail
  refine (cB _).mono ?_
  rintro e w2 ⟨rfl, k2⟩
  have b2 := k2.heap (heap_alloc_keep b0 (.cells #[.int .i64 1, .int .i64 n, .int .i64 0, .int .i64 0, .bool false, .int .i64 0, .int .i64 0, .int .i64 0, .int .i64 0, .int .i64 0, .string ⟨#[]⟩, .bool false, .int .i64 0, .int .i64 0] 79)) id
  have t2 := k2.heap (heap_alloc_new w1 (.cells #[.int .i64 1, .int .i64 n, .int .i64 0, .int .i64 0, .bool false, .int .i64 0, .int .i64 0, .int .i64 0, .int .i64 0, .int .i64 0, .string ⟨#[]⟩, .bool false, .int .i64 0, .int .i64 0] 79)) id
  have c2 := Lib.cell_of_heap b2
  have d2 := Lib.cell_of_heap t2
  have K2 := (K1.alloc (.cells #[.int .i64 1, .int .i64 n, .int .i64 0, .int .i64 0, .bool false, .int .i64 0, .int .i64 0, .int .i64 0, .int .i64 0, .int .i64 0, .string ⟨#[]⟩, .bool false, .int .i64 0, .int .i64 0] 79)).trans k2
  clear c0 cB
  go_wp2_with fail
  refine (cB2 _).mono ?_
  rintro e w3 ⟨rfl, k3⟩
  have b3 := k3.heap b2 id
  have t3 := k3.heap t2 id
  have c3 := Lib.cell_of_heap b3
  have d3 := Lib.cell_of_heap t3
  have K3 := K2.trans k3
  clear c2 d2 cB2
  go_wp2
  go_ret2
  exact RLinePost.no Hok.out rfl K3

set_option maxRecDepth 100000 in
set_option maxHeartbeats 4000000 in
theorem rline_do_right (n eto keep : Int) (ef : Bool) (ck R N p m : Int) (tx : List UInt8) (cf : Bool) (R2 N2 : Int) (w : World) (hE : Env w) (hF : EvFits ⟨1, n, eto, keep, ef, ⟨ck, ⟨R, N⟩, p, m, tx, cf, ⟨R2, N2⟩⟩⟩) (hr : 1 ≤ ck ∧ ck ≤ 14) (hb : Off.rightBlock ⟨R, N⟩ = true) (hb2 : Off.rightBlock ⟨R2, N2⟩ = true) :
    Calls Tryz.prog 39 #[evV ⟨1, n, eto, keep, ef, ⟨ck, ⟨R, N⟩, p, m, tx, cf, ⟨R2, N2⟩⟩⟩] w (RLinePost ⟨1, n, eto, keep, ef, ⟨ck, ⟨R, N⟩, p, m, tx, cf, ⟨R2, N2⟩⟩⟩ w) := by
  have hz := hE.size
  obtain ⟨hn, hto, hkeep, hC⟩ := hF
  simp only at hn hto hkeep
  have ln := itoa_len n hn
  have gE := guardEv
  have qE := eqEvMax
  have hEb := hE.alloc (.cells #[.int .i64 1, .int .i64 n, .int .i64 eto, .int .i64 keep, .bool ef, .int .i64 ck, .int .i64 R, .int .i64 N, .int .i64 p, .int .i64 m, .string ⟨tx.toArray⟩, .bool cf, .int .i64 R2, .int .i64 N2] 79)
  go_enter Tryz.func39, Tryz.ntmps39
  go_wp2_with fail
  refine (refNumber_any n hn _).mono ?_
  rintro e w1 ⟨rfl, k1⟩
  have b0 : w1.heap[w.heap.size]? = some (.cells #[.int .i64 1, .int .i64 n, .int .i64 eto, .int .i64 keep, .bool ef, .int .i64 ck, .int .i64 R, .int .i64 N, .int .i64 p, .int .i64 m, .string ⟨tx.toArray⟩, .bool cf, .int .i64 R2, .int .i64 N2] 79 (0, 0)) := k1.own id
  have K1 : Keeps No w w1 := ((Keeps.refl _ _).alloc _).trans k1
  have hE1 : Env w1 := hEb.no k1
  have c0 := Lib.cell_of_heap b0
  have lt1 : w.heap.size < w1.heap.size := heap_lt b0
  have ne1 : ¬ w.heap.size = w1.heap.size := by omega
  clear hEb k1
  have hok := do_ok n eto keep ef ⟨ck, ⟨R, N⟩, p, m, tx, cf, ⟨R2, N2⟩⟩ hr hb hb2
  have cB := fun w1 => refRightBlock_any R N w1
  rw [hb] at cB
  have cB2 := fun w1 => refRightBlock_any R2 N2 w1
  rw [hb2] at cB2
  have cC := fun w1 h => rcmd_any ⟨ck, ⟨R, N⟩, p, m, tx, cf, ⟨R2, N2⟩⟩ w1 h hC hr
  have hli := do_line n eto keep ef ⟨ck, ⟨R, N⟩, p, m, tx, cf, ⟨R2, N2⟩⟩
  have lt := Nat.le_trans (joinW_len (Off.cmdWords ⟨ck, ⟨R, N⟩, p, m, tx, cf, ⟨R2, N2⟩⟩)) (cmdWords_len ⟨ck, ⟨R, N⟩, p, m, tx, cf, ⟨R2, N2⟩⟩ hC)
  generalize Off.cmdTold ⟨ck, ⟨R, N⟩, p, m, tx, cf, ⟨R2, N2⟩⟩ = ct at hok cC
  generalize Off.joinW (Off.cmdWords ⟨ck, ⟨R, N⟩, p, m, tx, cf, ⟨R2, N2⟩⟩) = tw at hli cC lt
  obtain ⟨dk, ⟨dR, dN⟩, dp, dm, dt, df, ⟨dR2, dN2⟩⟩ := ct
  have r1 : ¬ ck < 1 := by omega
  have r2 : ¬ 14 < ck := by omega
  have m0 : ¬ 9223372036854775807 < 3 + (Lib.itoa n).length := by omega
  have m1 : ¬ 9223372036854775807 < 3 + (Lib.itoa n).length + 1 := by omega
  have m2 : ¬ 9223372036854775807 < 3 + (Lib.itoa n).length + 1 + tw.length := by omega
  have hcat : ByteArray.mk #[100, 111, 32] ++ ByteArray.mk (Lib.itoa n).toArray ++ ByteArray.mk #[32] ++ ByteArray.mk tw.toArray = ByteArray.mk (List.toArray ([100, 111, 32] ++ Lib.itoa n ++ [32] ++ tw)) := by
    rw [bytes_app, bytes_app, bytes_app]
    refine congrArg ByteArray.mk ?_
    apply Array.ext'
    simp
  have hne : (([100, 111, 32] ++ Lib.itoa n ++ [32] ++ tw : List UInt8) == []) = false := rfl
  obtain ⟨LN, hLN⟩ : ∃ LN : List UInt8, [100, 111, 32] ++ Lib.itoa n ++ [32] ++ tw = LN := ⟨_, rfl⟩
  rw [hLN] at hcat hne
  have HLN := Lib.hid hLN
  have Hli := Lib.hid hli
  clear hLN hli hb hb2
  go_wp2_with fail
  refine (cB _).mono ?_
  rintro e w2 ⟨rfl, k2⟩
  have b2 := k2.heap (heap_alloc_keep b0 (.cells #[.int .i64 1, .int .i64 n, .int .i64 0, .int .i64 0, .bool false, .int .i64 0, .int .i64 0, .int .i64 0, .int .i64 0, .int .i64 0, .string ⟨#[]⟩, .bool false, .int .i64 0, .int .i64 0] 79)) id
  have t2 := k2.heap (heap_alloc_new w1 (.cells #[.int .i64 1, .int .i64 n, .int .i64 0, .int .i64 0, .bool false, .int .i64 0, .int .i64 0, .int .i64 0, .int .i64 0, .int .i64 0, .string ⟨#[]⟩, .bool false, .int .i64 0, .int .i64 0] 79)) id
  have c2 := Lib.cell_of_heap b2
  have d2 := Lib.cell_of_heap t2
  have K2 := (K1.alloc (.cells #[.int .i64 1, .int .i64 n, .int .i64 0, .int .i64 0, .bool false, .int .i64 0, .int .i64 0, .int .i64 0, .int .i64 0, .int .i64 0, .string ⟨#[]⟩, .bool false, .int .i64 0, .int .i64 0] 79)).trans k2
  clear c0 cB
  go_wp2_with fail
  refine (cB2 _).mono ?_
  rintro e w3 ⟨rfl, k3⟩
  have b3 := k3.heap b2 id
  have t3 := k3.heap t2 id
  have c3 := Lib.cell_of_heap b3
  have d3 := Lib.cell_of_heap t3
  have K3 := K2.trans k3
  clear c2 d2 cB2
  go_wp2_with fail
  refine (cC _ (hE.no K3)).mono ?_
  rintro e w4 ⟨rfl, k4⟩
  have b4 := k4.heap b3 id
  have t4 := k4.heap t3 id
  have c4 := Lib.cell_of_heap b4
  have d4 := Lib.cell_of_heap t4
  have K4 := K3.trans k4
  clear c3 d3 cC
  have f4 := Lib.frozen_of_heap t4
  have z4 : w1.heap.size < w4.heap.size := heap_lt t4
  have z5 : w.heap.size < w4.heap.size := by omega
  have ne4 : ¬ w1.heap.size = w4.heap.size := by omega
  have ne5 : ¬ w.heap.size = w4.heap.size := by omega
  cases hq : evSame ⟨1, n, 0, 0, false, ⟨dk, ⟨dR, dN⟩, dp, dm, dt, df, ⟨dR2, dN2⟩⟩⟩ ⟨1, n, eto, keep, ef, ⟨ck, ⟨R, N⟩, p, m, tx, cf, ⟨R2, N2⟩⟩⟩ with
  | true =>
    rw [hq] at hok
    have Hok := Lib.hid hok
    clear hok
    go_wp2
    go_ret2
    have s : ∀ {W : World} (j : Nat) (v : Value), Keeps No w W → Keeps No w (W.setCell ⟨w1.heap.size, j, none⟩ v) := fun {W} j v hh => hh.setNew (by omega) v
    exact RLinePost.yes Hok.out (Hli.out.trans HLN.out) rfl ((s 13 _ (s 12 _ (s 11 _ (s 10 _ (s 9 _ (s 8 _ (s 7 _ (s 6 _ (s 5 _ (K4)))))))))).alloc _)
  | false =>
    rw [hq] at hok
    have Hok := Lib.hid hok
    clear hok
    go_wp2
    go_ret2
    have s : ∀ {W : World} (j : Nat) (v : Value), Keeps No w W → Keeps No w (W.setCell ⟨w1.heap.size, j, none⟩ v) := fun {W} j v hh => hh.setNew (by omega) v
    exact RLinePost.no Hok.out rfl ((s 13 _ (s 12 _ (s 11 _ (s 10 _ (s 9 _ (s 8 _ (s 7 _ (s 6 _ (s 5 _ (K4)))))))))).alloc _)

set_option maxRecDepth 100000 in
set_option maxHeartbeats 4000000 in
theorem rline_none (k n eto keep : Int) (ef : Bool) (ck R N p m : Int) (tx : List UInt8) (cf : Bool) (R2 N2 : Int) (w : World) (hE : Env w) (hF : EvFits ⟨k, n, eto, keep, ef, ⟨ck, ⟨R, N⟩, p, m, tx, cf, ⟨R2, N2⟩⟩⟩) (hk : k < 1 ∨ 8 < k) :
    Calls Tryz.prog 39 #[evV ⟨k, n, eto, keep, ef, ⟨ck, ⟨R, N⟩, p, m, tx, cf, ⟨R2, N2⟩⟩⟩] w (RLinePost ⟨k, n, eto, keep, ef, ⟨ck, ⟨R, N⟩, p, m, tx, cf, ⟨R2, N2⟩⟩⟩ w) := by
  have hz := hE.size
  obtain ⟨hn, hto, hkeep, hC⟩ := hF
  simp only at hn hto hkeep
  have ln := itoa_len n hn
  have gE := guardEv
  have qE := eqEvMax
  have hEb := hE.alloc (.cells #[.int .i64 k, .int .i64 n, .int .i64 eto, .int .i64 keep, .bool ef, .int .i64 ck, .int .i64 R, .int .i64 N, .int .i64 p, .int .i64 m, .string ⟨tx.toArray⟩, .bool cf, .int .i64 R2, .int .i64 N2] 79)
  go_enter Tryz.func39, Tryz.ntmps39
  go_wp2_with fail
  refine (refNumber_any n hn _).mono ?_
  rintro e w1 ⟨rfl, k1⟩
  have b0 : w1.heap[w.heap.size]? = some (.cells #[.int .i64 k, .int .i64 n, .int .i64 eto, .int .i64 keep, .bool ef, .int .i64 ck, .int .i64 R, .int .i64 N, .int .i64 p, .int .i64 m, .string ⟨tx.toArray⟩, .bool cf, .int .i64 R2, .int .i64 N2] 79 (0, 0)) := k1.own id
  have K1 : Keeps No w w1 := ((Keeps.refl _ _).alloc _).trans k1
  have hE1 : Env w1 := hEb.no k1
  have c0 := Lib.cell_of_heap b0
  have lt1 : w.heap.size < w1.heap.size := heap_lt b0
  have ne1 : ¬ w.heap.size = w1.heap.size := by omega
  clear hEb k1
  have g1 : (k == 1) = false := by rw [beq_eq_false_iff_ne]; omega
  have g2 : (k == 2) = false := by rw [beq_eq_false_iff_ne]; omega
  have g3 : (k == 3) = false := by rw [beq_eq_false_iff_ne]; omega
  have g4 : (k == 4) = false := by rw [beq_eq_false_iff_ne]; omega
  have g5 : (k == 5) = false := by rw [beq_eq_false_iff_ne]; omega
  have g6 : (k == 6) = false := by rw [beq_eq_false_iff_ne]; omega
  have g7 : (k == 7) = false := by rw [beq_eq_false_iff_ne]; omega
  have g8 : (k == 8) = false := by rw [beq_eq_false_iff_ne]; omega
  have Hok := Lib.hid (none_ok (n := n) (eto := eto) (keep := keep) (ef := ef) (c := ⟨ck, ⟨R, N⟩, p, m, tx, cf, ⟨R2, N2⟩⟩) hk)
  go_wp2
  go_ret2
  exact RLinePost.no Hok.out rfl (K1.alloc _)

theorem rline_any (ev : Off.Ev) (w : World) (hE : Env w) (hF : EvFits ev) : Calls Tryz.prog 39 #[evV ev] w (RLinePost ev w) := by
  obtain ⟨k, n, eto, keep, ef, ⟨ck, ⟨R, N⟩, p, m, tx, cf, ⟨R2, N2⟩⟩⟩ := ev
  have hc : k = 1 ∨ k = 2 ∨ k = 3 ∨ k = 4 ∨ k = 5 ∨ k = 6 ∨ k = 7 ∨ k = 8 ∨ (k < 1 ∨ 8 < k) := by omega
  rcases hc with rfl | rfl | rfl | rfl | rfl | rfl | rfl | rfl | hc
  · by_cases hr : 1 ≤ ck ∧ ck ≤ 14
    · cases hb : Off.rightBlock ⟨R, N⟩ with
      | false => exact rline_do_block n eto keep ef ck R N p m tx cf R2 N2 w hE hF hr hb
      | true =>
        cases hb2 : Off.rightBlock ⟨R2, N2⟩ with
        | false => exact rline_do_other n eto keep ef ck R N p m tx cf R2 N2 w hE hF hr hb hb2
        | true => exact rline_do_right n eto keep ef ck R N p m tx cf R2 N2 w hE hF hr hb hb2
    · exact rline_do_kind n eto keep ef ck R N p m tx cf R2 N2 w hE hF hr
  · exact rline_sync n eto keep ef ck R N p m tx cf R2 N2 w hE hF
  · exact rline_tell n eto keep ef ck R N p m tx cf R2 N2 w hE hF
  · cases ef
    · exact rline_deliver n eto keep ck R N p m tx cf R2 N2 w hE hF
    · exact rline_copy n eto keep ck R N p m tx cf R2 N2 w hE hF
  · exact rline_drop n eto keep ef ck R N p m tx cf R2 N2 w hE hF
  · exact rline_crash n eto keep ef ck R N p m tx cf R2 N2 w hE hF
  · exact rline_start n eto keep ef ck R N p m tx cf R2 N2 w hE hF
  · exact rline_compact n eto keep ef ck R N p m tx cf R2 N2 w hE hF
  · exact rline_none k n eto keep ef ck R N p m tx cf R2 N2 w hE hF hc

end Go.Proofs.YtkpenijilnagjaaGreatDoor
