/- What == says of two events, as the model compares them. -/
import Derived.Test.YtkpenijilnagjaaDoorEvBase
import Derived.Laws.StructEq
namespace Go.Proofs.YtkpenijilnagjaaDoor
open Go.RowKit

theorem decide_beqI (a b : Int) : (a == b) = decide (a = b) := by by_cases h : a = b <;> simp [h]

set_option maxHeartbeats 1000000 in
theorem eqId (d : Nat) (a b a' b' : Int) (w : World) : (Op.equalIn (d + 1 + 1) 34 (.agg #[.int .i64 a, .int .i64 b]) (.agg #[.int .i64 a', .int .i64 b'])).run Tryd.prog w = .ok (decide ((⟨a, b⟩ : Off.Bid) = ⟨a', b'⟩)) w := by
  have u3 := Tryd.underlying3
  have a3 := Tryd.isAgg3
  have z3 := Tryd.sizeOf3
  have hS : Tryd.prog.underlying 34 = some (.struct (Tryd.prog.fieldsOf 34)) := by kernel_rfl
  have hp : Tryd.prog.stoodInHeld 34 = false := by kernel_rfl
  rw [run_equalIn_agg w (d + 1) 34 _ _ hS hp]
  simp only [Program.fieldsOf, Tryd.underlying34]
  go_simp
  by_cases h1 : a = a' <;> by_cases h2 : b = b' <;> simp [h1, h2]

set_option maxHeartbeats 1000000 in
theorem eqCmd (d : Nat) (k r n p m : Int) (t : List UInt8) (f : Bool) (r2 n2 : Int) (k' r' n' p' m' : Int) (t' : List UInt8) (f' : Bool) (r2' n2' : Int) (w : World) :
    (Op.equalIn (d + 1 + 1 + 1) 36 (.agg #[.int .i64 k, .int .i64 r, .int .i64 n, .int .i64 p, .int .i64 m, .string ⟨t.toArray⟩, .bool f, .int .i64 r2, .int .i64 n2])
      (.agg #[.int .i64 k', .int .i64 r', .int .i64 n', .int .i64 p', .int .i64 m', .string ⟨t'.toArray⟩, .bool f', .int .i64 r2', .int .i64 n2'])).run Tryd.prog w =
      .ok (decide ((⟨k, ⟨r, n⟩, p, m, t, f, ⟨r2, n2⟩⟩ : Off.Cmd) = ⟨k', ⟨r', n'⟩, p', m', t', f', ⟨r2', n2'⟩⟩)) w := by
  have u3 := Tryd.underlying3
  have a3 := Tryd.isAgg3
  have z3 := Tryd.sizeOf3
  have u4 := Tryd.underlying4
  have a4 := Tryd.isAgg4
  have z4 := Tryd.sizeOf4
  have u9 := Tryd.underlying9
  have a9 := Tryd.isAgg9
  have z9 := Tryd.sizeOf9
  have ai := Tryd.isAgg34
  have zi := Tryd.sizeOf34
  have hS : Tryd.prog.underlying 36 = some (.struct (Tryd.prog.fieldsOf 36)) := by kernel_rfl
  have hp : Tryd.prog.stoodInHeld 36 = false := by kernel_rfl
  have eI := eqId d
  rw [run_equalIn_agg w (d + 1 + 1) 36 _ _ hS hp]
  simp only [Program.fieldsOf, Tryd.underlying36]
  go_simp
  repeat' split
  all_goals simp_all

/-- are two events the same? (a word that no simplifier opens) -/
def evSame (a b : Off.Ev) : Bool := decide (a = b)

set_option maxHeartbeats 2000000 in
theorem eqEv (d : Nat) (kd en eto ek : Int) (ef : Bool) (k r n p m : Int) (t : List UInt8) (f : Bool) (r2 n2 : Int) (kd' en' eto' ek' : Int) (ef' : Bool) (k' r' n' p' m' : Int) (t' : List UInt8) (f' : Bool) (r2' n2' : Int) (w : World) :
    (Op.equalIn (d + 1 + 1 + 1 + 1) 38 (.agg #[.int .i64 kd, .int .i64 en, .int .i64 eto, .int .i64 ek, .bool ef, .int .i64 k, .int .i64 r, .int .i64 n, .int .i64 p, .int .i64 m, .string ⟨t.toArray⟩, .bool f, .int .i64 r2, .int .i64 n2])
      (.agg #[.int .i64 kd', .int .i64 en', .int .i64 eto', .int .i64 ek', .bool ef', .int .i64 k', .int .i64 r', .int .i64 n', .int .i64 p', .int .i64 m', .string ⟨t'.toArray⟩, .bool f', .int .i64 r2', .int .i64 n2'])).run Tryd.prog w =
      .ok (evSame ⟨kd, en, eto, ek, ef, ⟨k, ⟨r, n⟩, p, m, t, f, ⟨r2, n2⟩⟩⟩ ⟨kd', en', eto', ek', ef', ⟨k', ⟨r', n'⟩, p', m', t', f', ⟨r2', n2'⟩⟩⟩) w := by
  have u3 := Tryd.underlying3
  have a3 := Tryd.isAgg3
  have z3 := Tryd.sizeOf3
  have u4 := Tryd.underlying4
  have a4 := Tryd.isAgg4
  have z4 := Tryd.sizeOf4
  have ai := Tryd.isAgg36
  have zi := Tryd.sizeOf36
  have hS : Tryd.prog.underlying 38 = some (.struct (Tryd.prog.fieldsOf 38)) := by kernel_rfl
  have hp : Tryd.prog.stoodInHeld 38 = false := by kernel_rfl
  have eI := eqCmd d
  rw [run_equalIn_agg w (d + 1 + 1 + 1) 38 _ _ hS hp]
  simp only [Program.fieldsOf, Tryd.underlying38]
  go_simp
  unfold evSame
  by_cases h1 : kd = kd'
  · by_cases h2 : en = en'
    · by_cases h3 : eto = eto'
      · by_cases h4 : ek = ek'
        · by_cases h5 : ef = ef'
          · subst h1 h2 h3 h4 h5; simp; repeat' split
            all_goals simp_all
          · simp [h1, h2, h3, h4, h5]
        · simp [h1, h2, h3, h4]
      · simp [h1, h2, h3]
    · simp [h1, h2]
  · simp [h1]

theorem eqEvMax (kd en eto ek : Int) (ef : Bool) (k r n p m : Int) (t : List UInt8) (f : Bool) (r2 n2 : Int) (kd' en' eto' ek' : Int) (ef' : Bool) (k' r' n' p' m' : Int) (t' : List UInt8) (f' : Bool) (r2' n2' : Int) (w : World) :
    (Op.equalIn 10000 38 (.agg #[.int .i64 kd, .int .i64 en, .int .i64 eto, .int .i64 ek, .bool ef, .int .i64 k, .int .i64 r, .int .i64 n, .int .i64 p, .int .i64 m, .string ⟨t.toArray⟩, .bool f, .int .i64 r2, .int .i64 n2])
      (.agg #[.int .i64 kd', .int .i64 en', .int .i64 eto', .int .i64 ek', .bool ef', .int .i64 k', .int .i64 r', .int .i64 n', .int .i64 p', .int .i64 m', .string ⟨t'.toArray⟩, .bool f', .int .i64 r2', .int .i64 n2'])).run Tryd.prog w =
      .ok (evSame ⟨kd, en, eto, ek, ef, ⟨k, ⟨r, n⟩, p, m, t, f, ⟨r2, n2⟩⟩⟩ ⟨kd', en', eto', ek', ef', ⟨k', ⟨r', n'⟩, p', m', t', f', ⟨r2', n2'⟩⟩⟩) w :=
  eqEv 9996 kd en eto ek ef k r n p m t f r2 n2 kd' en' eto' ek' ef' k' r' n' p' m' t' f' r2' n2' w
theorem guardEv : Tryd.prog.eqGuardType Tryd.prog.depth 38 = false := by kernel_rfl

end Go.Proofs.YtkpenijilnagjaaDoor
