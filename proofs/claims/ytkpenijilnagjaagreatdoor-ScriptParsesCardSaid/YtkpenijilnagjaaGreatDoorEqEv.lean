/- What == says of two events, as the model compares them. -/
import Derived.Test.YtkpenijilnagjaaGreatDoorEvBase
import Derived.Laws.StructEq
namespace Go.Proofs.YtkpenijilnagjaaGreatDoor
open Go.RowKit

theorem decide_beqI (a b : Int) : (a == b) = decide (a = b) := by by_cases h : a = b <;> simp [h]

set_option maxHeartbeats 1000000 in
theorem eqId (d : Nat) (a b a' b' : Int) (w : World) : (Op.equalIn (d + 1 + 1) 34 (.agg #[.int .i64 a, .int .i64 b]) (.agg #[.int .i64 a', .int .i64 b'])).run Tryz.prog w = .ok (decide ((⟨a, b⟩ : Off.Bid) = ⟨a', b'⟩)) w := by
  have u3 := Tryz.underlying3
  have a3 := Tryz.isAgg3
  have z3 := Tryz.sizeOf3
  have hS : Tryz.prog.underlying 34 = some (.struct (Tryz.prog.fieldsOf 34)) := by kernel_rfl
  have hp : Tryz.prog.stoodInHeld 34 = false := by kernel_rfl
  rw [run_equalIn_agg w (d + 1) 34 _ _ hS hp]
  simp only [Program.fieldsOf, Tryz.underlying34]
  go_simp
  by_cases h1 : a = a' <;> by_cases h2 : b = b' <;> simp [h1, h2]

set_option maxHeartbeats 1000000 in
theorem eqCmd (d : Nat) (k r n p m : Int) (t : List UInt8) (f : Bool) (r2 n2 : Int) (k' r' n' p' m' : Int) (t' : List UInt8) (f' : Bool) (r2' n2' : Int) (w : World) :
    (Op.equalIn (d + 1 + 1 + 1) 77 (.agg #[.int .i64 k, .int .i64 r, .int .i64 n, .int .i64 p, .int .i64 m, .string ⟨t.toArray⟩, .bool f, .int .i64 r2, .int .i64 n2])
      (.agg #[.int .i64 k', .int .i64 r', .int .i64 n', .int .i64 p', .int .i64 m', .string ⟨t'.toArray⟩, .bool f', .int .i64 r2', .int .i64 n2'])).run Tryz.prog w =
      .ok (decide ((⟨k, ⟨r, n⟩, p, m, t, f, ⟨r2, n2⟩⟩ : Off.Cmd) = ⟨k', ⟨r', n'⟩, p', m', t', f', ⟨r2', n2'⟩⟩)) w := by
  have u3 := Tryz.underlying3
  have a3 := Tryz.isAgg3
  have z3 := Tryz.sizeOf3
  have u4 := Tryz.underlying4
  have a4 := Tryz.isAgg4
  have z4 := Tryz.sizeOf4
  have u9 := Tryz.underlying9
  have a9 := Tryz.isAgg9
  have z9 := Tryz.sizeOf9
  have ai := Tryz.isAgg34
  have zi := Tryz.sizeOf34
  have hS : Tryz.prog.underlying 77 = some (.struct (Tryz.prog.fieldsOf 77)) := by kernel_rfl
  have hp : Tryz.prog.stoodInHeld 77 = false := by kernel_rfl
  have eI := eqId d
  rw [run_equalIn_agg w (d + 1 + 1) 77 _ _ hS hp]
  simp only [Program.fieldsOf, Tryz.underlying77]
  go_simp
  repeat' split
  all_goals simp_all

/-- are two events the same? (a word that no simplifier opens) -/
def evSame (a b : Off.Ev) : Bool := decide (a = b)

set_option maxHeartbeats 2000000 in
theorem eqEv (d : Nat) (kd en eto ek : Int) (ef : Bool) (k r n p m : Int) (t : List UInt8) (f : Bool) (r2 n2 : Int) (kd' en' eto' ek' : Int) (ef' : Bool) (k' r' n' p' m' : Int) (t' : List UInt8) (f' : Bool) (r2' n2' : Int) (w : World) :
    (Op.equalIn (d + 1 + 1 + 1 + 1) 79 (.agg #[.int .i64 kd, .int .i64 en, .int .i64 eto, .int .i64 ek, .bool ef, .int .i64 k, .int .i64 r, .int .i64 n, .int .i64 p, .int .i64 m, .string ⟨t.toArray⟩, .bool f, .int .i64 r2, .int .i64 n2])
      (.agg #[.int .i64 kd', .int .i64 en', .int .i64 eto', .int .i64 ek', .bool ef', .int .i64 k', .int .i64 r', .int .i64 n', .int .i64 p', .int .i64 m', .string ⟨t'.toArray⟩, .bool f', .int .i64 r2', .int .i64 n2'])).run Tryz.prog w =
      .ok (evSame ⟨kd, en, eto, ek, ef, ⟨k, ⟨r, n⟩, p, m, t, f, ⟨r2, n2⟩⟩⟩ ⟨kd', en', eto', ek', ef', ⟨k', ⟨r', n'⟩, p', m', t', f', ⟨r2', n2'⟩⟩⟩) w := by
  have u3 := Tryz.underlying3
  have a3 := Tryz.isAgg3
  have z3 := Tryz.sizeOf3
  have u4 := Tryz.underlying4
  have a4 := Tryz.isAgg4
  have z4 := Tryz.sizeOf4
  have ai := Tryz.isAgg77
  have zi := Tryz.sizeOf77
  have hS : Tryz.prog.underlying 79 = some (.struct (Tryz.prog.fieldsOf 79)) := by kernel_rfl
  have hp : Tryz.prog.stoodInHeld 79 = false := by kernel_rfl
  have eI := eqCmd d
  rw [run_equalIn_agg w (d + 1 + 1 + 1) 79 _ _ hS hp]
  simp only [Program.fieldsOf, Tryz.underlying79]
  go_simp
  unfold evSame
  by_cases h1 : kd = kd'
  · by_cases h2 : en = en'
    · by_cases h3 : eto = eto'
      · by_cases h4 : ek = ek'
        · by_cases h5 : ef = ef'
          · subst h1 h2 h3 h4 h5; simp; repeat' split
            all_goals simp_all
          · simp [h1, h2, h3, h4, h5]
        · simp [h1, h2, h3, h4]
      · simp [h1, h2, h3]
    · simp [h1, h2]
  · simp [h1]

theorem eqEvMax (kd en eto ek : Int) (ef : Bool) (k r n p m : Int) (t : List UInt8) (f : Bool) (r2 n2 : Int) (kd' en' eto' ek' : Int) (ef' : Bool) (k' r' n' p' m' : Int) (t' : List UInt8) (f' : Bool) (r2' n2' : Int) (w : World) :
    (Op.equalIn 10000 79 (.agg #[.int .i64 kd, .int .i64 en, .int .i64 eto, .int .i64 ek, .bool ef, .int .i64 k, .int .i64 r, .int .i64 n, .int .i64 p, .int .i64 m, .string ⟨t.toArray⟩, .bool f, .int .i64 r2, .int .i64 n2])
      (.agg #[.int .i64 kd', .int .i64 en', .int .i64 eto', .int .i64 ek', .bool ef', .int .i64 k', .int .i64 r', .int .i64 n', .int .i64 p', .int .i64 m', .string ⟨t'.toArray⟩, .bool f', .int .i64 r2', .int .i64 n2'])).run Tryz.prog w =
      .ok (evSame ⟨kd, en, eto, ek, ef, ⟨k, ⟨r, n⟩, p, m, t, f, ⟨r2, n2⟩⟩⟩ ⟨kd', en', eto', ek', ef', ⟨k', ⟨r', n'⟩, p', m', t', f', ⟨r2', n2'⟩⟩⟩) w :=
  eqEv 9996 kd en eto ek ef k r n p m t f r2 n2 kd' en' eto' ek' ef' k' r' n' p' m' t' f' r2' n2' w
theorem guardEv : Tryz.prog.eqGuardType Tryz.prog.depth 79 = false := by kernel_rfl

end Go.Proofs.YtkpenijilnagjaaGreatDoor
