/- The scanner's methods, each by its contract: need, word, number, block, digit, in. -/
import Derived.Test.YtkpenijilnagjaaGreatDoorRead
import Derived.WalkSmall
import Derived.Stop.IfaceNil
namespace Go.Proofs.YtkpenijilnagjaaGreatDoor
open Go.RowKit

theorem isIfaceErr : Tryz.prog.isIface 93 = true := by kernel_rfl

/-- what a scanner panics with -/
def wrongChain : List PanicEntry := [{ v := .iface 135 (.agg #[]), recovered := false }]

theorem need_ok (w : World) : Calls Tryz.prog 109 #[.bool true] w fun e w' => e = .returned (.tuple #[]) ∧ w = w' := by
  go_enter Tryz.func109, Tryz.ntmps109
  go_wp2
  go_end0
  exact ⟨rfl, rfl⟩

theorem need_bad (w : World) : Calls Tryz.prog 109 #[.bool false] w fun e w' => e = .panicked wrongChain ∧ w = w' := by
  go_enter Tryz.func109, Tryz.ntmps109
  go_wp2
  exact ⟨rfl, rfl, rfl⟩

set_option maxRecDepth 100000 in
set_option maxHeartbeats 400000 in
theorem word_any (b : Nat) (s : List UInt8) (w : World) (hE : Env w) (hb : Scan b s w) (hs : s.length < 4294967281) :
    Calls Tryz.prog 106 #[.pointer (some ⟨b, 0, none⟩)] w fun e w' =>
      e = .returned (.string ⟨(Off.upto 32 s).toArray⟩) ∧ Scan b (Off.behind 32 s) w' ∧ Keeps (At1 b) w w' := by
  have c0 := hb.cell
  go_enter Tryz.func106, Tryz.ntmps106
  go_wp2_with (go_at_call 154; refine (lib_cut 32 s _ hE hs).mono ?_; rintro e w1 ⟨⟨bb, rfl⟩, k1⟩; have hb1 := hb.no k1 id; have c1 := hb1.cell; have f1 := hb1.free 0)
  go_ret
  exact ⟨rfl, hb1.set _, k1.any.set1 _⟩

theorem behind_len (s : List UInt8) (hs : s.length < 4294967281) : (Off.behind 32 s).length < 4294967281 := by
  have := behind_le 32 s; omega

set_option maxRecDepth 100000 in
set_option maxHeartbeats 400000 in
theorem number_ok (b : Nat) (s r : List UInt8) (n : Int) (w : World) (hE : Env w) (hb : Scan b s w) (h10 : 10 ≤ b) (hs : s.length < 4294967281)
    (hn : Off.number s = .some (n, r)) :
    Calls Tryz.prog 107 #[.pointer (some ⟨b, 0, none⟩)] w fun e w' =>
      e = .returned (.int .i64 n) ∧ Scan b r w' ∧ Keeps (At1 b) w w' ∧ Off.I64 n := by
  unfold Off.number Off.word at hn
  simp only at hn
  split at hn
  · cases hn
  · rename_i m hm
    split at hn
    · rename_i hit
      cases hn
      have hm' := Lib.hid hm
      have hit' := Lib.hid hit
      clear hm hit
      have hl := upto_le 32 s
      have hif := isIfaceErr
      go_enter Tryz.func107, Tryz.ntmps107
      go_wp2_with (go_at_call 106; refine (word_any b s _ hE hb hs).mono ?_; rintro e w1 ⟨rfl, hb1, k1⟩)
      have hE1 : Env w1 := hE.keeps k1 fun k e => by unfold At1 at e; omega
      go_wp2_with (go_at_call 155; refine (lib_atoi (Off.upto 32 s) _ hE1 (by omega)).mono ?_; rintro e w2 ⟨⟨n', ev, rfl, ha⟩, k2⟩)
      rcases ha with ⟨hv, rfl, hI⟩ | ⟨hv, t, p, rfl⟩
      · obtain rfl : n' = n := by rw [hm'.out] at hv; cases hv; rfl
        clear hv
        have hE2 : Env w2 := hE1.no k2
        have ci := lib_itoa n' w2 hE2 hI
        rw [hit'.out] at ci
        go_simp
        go_wp2_with (first
          | (go_at_call 117; refine ci.mono ?_; rintro e w3 ⟨rfl, k3⟩)
          | (go_at_call 109; refine (need_ok _).mono ?_; rintro e w4 ⟨rfl, rfl⟩))
        go_ret
        exact ⟨rfl, (hb1.no k2 id).no k3 id, (k1.no k2).no k3, hI⟩
      · rw [hm'.out] at hv; cases hv
    · cases hn

set_option maxRecDepth 100000 in
set_option maxHeartbeats 400000 in
theorem number_bad (b : Nat) (s : List UInt8) (w : World) (hE : Env w) (hb : Scan b s w) (h10 : 10 ≤ b) (hs : s.length < 4294967281)
    (hn : Off.number s = .none) :
    Calls Tryz.prog 107 #[.pointer (some ⟨b, 0, none⟩)] w fun e w' =>
      e = .panicked wrongChain ∧ Keeps (At1 b) w w' := by
  have hn' : ∀ n, Off.atoiV (Off.upto 32 s) = some n → (Lib.itoa n == Off.upto 32 s) = false := by
    intro n h
    unfold Off.number Off.word at hn
    simp only [h] at hn
    split at hn
    · cases hn
    · rename_i h'; exact beq_false_of_ne h'
  have Hn := Lib.hid hn'
  clear hn hn'
  have hl := upto_le 32 s
  have hif := isIfaceErr
  go_enter Tryz.func107, Tryz.ntmps107
  go_wp2_with (go_at_call 106; refine (word_any b s _ hE hb hs).mono ?_; rintro e w1 ⟨rfl, hb1, k1⟩)
  have hE1 : Env w1 := hE.keeps k1 fun k e => by unfold At1 at e; omega
  go_wp2_with (go_at_call 155; refine (lib_atoi (Off.upto 32 s) _ hE1 (by omega)).mono ?_; rintro e w2 ⟨⟨n', ev, rfl, ha⟩, k2⟩)
  rcases ha with ⟨hv, rfl, hI⟩ | ⟨hv, t, p, rfl⟩
  · have hne := Hn.out n' hv
    clear hv
    have hE2 : Env w2 := hE1.no k2
    go_simp
    go_wp2_with (first
      | (go_at_call 117; refine (lib_itoa n' w2 hE2 hI).mono ?_; rintro e w3 ⟨rfl, k3⟩)
      | (go_at_call 109; refine (need_bad _).mono ?_; rintro e w4 ⟨rfl, rfl⟩))
    exact ⟨rfl, rfl, (k1.no k2).no k3⟩
  · clear hv
    go_simp
    go_wp2_with (go_at_call 109; refine (need_bad _).mono ?_; rintro e w4 ⟨rfl, rfl⟩)
    exact ⟨rfl, rfl, k1.no k2⟩

set_option maxRecDepth 100000 in
set_option maxHeartbeats 400000 in
theorem in_ok (b : Nat) (s r : List UInt8) (f : Bool) (w : World) (hE : Env w) (hb : Scan b s w) (hs : s.length < 4294967281)
    (hn : Off.scIn s = .some (f, r)) :
    Calls Tryz.prog 156 #[.pointer (some ⟨b, 0, none⟩)] w fun e w' =>
      e = .returned (.bool f) ∧ Scan b r w' ∧ Keeps (At1 b) w w' := by
  have hr : Off.behind 32 s = r ∧ (f = true ∧ Off.upto 32 s = Off.sIn ∨ f = false ∧ Off.upto 32 s = Off.sBehind) := by
    unfold Off.scIn Off.scInOf Off.word at hn
    simp only at hn
    split at hn
    · rename_i h; cases hn; exact ⟨rfl, .inl ⟨rfl, h⟩⟩
    · split at hn
      · rename_i h; cases hn; exact ⟨rfl, .inr ⟨rfl, h⟩⟩
      · cases hn
  clear hn
  obtain ⟨rfl, hw⟩ := hr
  have hW := word_any b s w hE hb hs
  rcases hw with ⟨rfl, h⟩ | ⟨rfl, h⟩
  all_goals
    rw [h] at hW
    clear h
    first | unfold Off.sIn at hW | unfold Off.sBehind at hW
  all_goals
    go_enter Tryz.func156, Tryz.ntmps156
    go_wp2_with (first
      | (go_at_call 106; refine hW.mono ?_; rintro e w1 ⟨rfl, hb1, k1⟩)
      | (go_at_call 109; refine (need_ok _).mono ?_; rintro e w4 ⟨rfl, rfl⟩))
    go_ret
    exact ⟨rfl, hb1, k1⟩

set_option maxRecDepth 100000 in
set_option maxHeartbeats 400000 in
theorem in_bad (b : Nat) (s : List UInt8) (w : World) (hE : Env w) (hb : Scan b s w) (hs : s.length < 4294967281)
    (hn : Off.scIn s = .none) :
    Calls Tryz.prog 156 #[.pointer (some ⟨b, 0, none⟩)] w fun e w' =>
      e = .panicked wrongChain ∧ Keeps (At1 b) w w' := by
  have hr : (Off.upto 32 s == [105, 110]) = false ∧ (Off.upto 32 s == [98, 101, 104, 105, 110, 100]) = false := by
    unfold Off.scIn Off.scInOf Off.word at hn
    simp only at hn
    split at hn
    · cases hn
    · rename_i h1
      split at hn
      · cases hn
      · rename_i h2; exact ⟨beq_false_of_ne h1, beq_false_of_ne h2⟩
  clear hn
  obtain ⟨h1, h2⟩ := hr
  go_enter Tryz.func156, Tryz.ntmps156
  go_wp2_with (first
    | (go_at_call 106; refine (word_any b s w hE hb hs).mono ?_; rintro e w1 ⟨rfl, hb1, k1⟩)
    | (go_at_call 109; refine (need_bad _).mono ?_; rintro e w4 ⟨rfl, rfl⟩))
  exact ⟨rfl, rfl, k1⟩

theorem hex_index (c : UInt8) : Lib.indexByte Off.hexs c = match Off.hexV c with | some v => (v.toNat : Int) | none => -1 :=
  Off.fin_byte (P := fun c => Lib.indexByte Off.hexs c = match Off.hexV c with | some v => (v.toNat : Int) | none => -1) (by decide +kernel) c
theorem hexV_lt (c v : UInt8) (h : Off.hexV c = some v) : v.toNat < 16 := by
  have : ∀ c : UInt8, ((Off.hexV c).getD 0).toNat < 16 := Off.fin_byte (P := fun c => ((Off.hexV c).getD 0).toNat < 16) (by decide +kernel)
  have := this c
  rw [h] at this
  exact this

theorem tail_extract (c : UInt8) (r : List UInt8) : (ByteArray.mk (c :: r).toArray).extract 1 (r.length + 1) = ⟨r.toArray⟩ := by
  apply ByteArray.ext
  rw [ByteArray.data_extract]
  apply Array.ext'
  simp

set_option maxRecDepth 100000 in
set_option maxHeartbeats 400000 in
theorem digit_ok (b : Nat) (c v : UInt8) (r : List UInt8) (w : World) (hb : Scan b (c :: r) w)
    (hn : Off.hexV c = .some v) :
    Calls Tryz.prog 187 #[.pointer (some ⟨b, 0, none⟩)] w fun e w' =>
      e = .returned (.int .u8 v.toNat) ∧ Scan b r w' ∧ Keeps (At1 b) w w' := by
  have hv := hexV_lt c v hn
  have hx := hex_index c
  rw [hn] at hx
  have ci := lib_indexByte Off.hexs (c.toNat : Int) w
  rw [show ((c.toNat : Int)).toNat.toUInt8 = c from by simp, hx] at ci
  unfold Off.hexs at ci
  clear hx hn
  have c0 := hb.cell
  have f0 := hb.free 0
  go_enter Tryz.func187, Tryz.ntmps187
  go_wp2_with (first
    | (go_at_call 212; refine ci.mono ?_; rintro e w1 ⟨rfl, rfl⟩)
    | (go_at_call 109; refine (need_ok _).mono ?_; rintro e w4 ⟨rfl, rfl⟩))
  go_ret
  rw [tail_extract]
  exact ⟨rfl, hb.set r, (Keeps.refl _ _).set1 _⟩

set_option maxRecDepth 100000 in
set_option maxHeartbeats 400000 in
theorem digit_bad (b : Nat) (s : List UInt8) (w : World) (hb : Scan b s w)
    (hn : ∀ c r, s = c :: r → Off.hexV c = .none) :
    Calls Tryz.prog 187 #[.pointer (some ⟨b, 0, none⟩)] w fun e w' =>
      e = .panicked wrongChain ∧ w = w' := by
  have c0 := hb.cell
  have f0 := hb.free 0
  cases s with
  | nil =>
    clear hn
    go_enter Tryz.func187, Tryz.ntmps187
    go_wp2_with (go_at_call 109; refine (need_bad _).mono ?_; rintro e w4 ⟨rfl, rfl⟩)
    exact ⟨rfl, rfl, rfl⟩
  | cons c r =>
    have hx := hex_index c
    rw [hn c r rfl] at hx
    have ci := lib_indexByte Off.hexs (c.toNat : Int) w
    rw [show ((c.toNat : Int)).toNat.toUInt8 = c from by simp, hx] at ci
    unfold Off.hexs at ci
    clear hx hn
    go_enter Tryz.func187, Tryz.ntmps187
    go_wp2_with (first
      | (go_at_call 212; refine ci.mono ?_; rintro e w1 ⟨rfl, rfl⟩)
      | (go_at_call_of 109 (Value.bool true); refine (need_ok _).mono ?_; rintro e w4 ⟨rfl, rfl⟩)
      | (go_at_call_of 109 (Value.bool false); refine (need_bad _).mono ?_; rintro e w4 ⟨rfl, rfl⟩))
    exact ⟨rfl, rfl, rfl⟩

end Go.Proofs.YtkpenijilnagjaaGreatDoor
