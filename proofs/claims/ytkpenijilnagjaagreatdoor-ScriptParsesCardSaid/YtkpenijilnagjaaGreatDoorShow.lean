/- show: an event as a line, whatever its kind. -/
import Derived.Test.YtkpenijilnagjaaGreatDoorShowA
import Derived.Test.YtkpenijilnagjaaGreatDoorShowB
import Derived.Test.YtkpenijilnagjaaGreatDoorShowC
import Derived.Test.YtkpenijilnagjaaGreatDoorShowD
import Derived.Test.YtkpenijilnagjaaGreatDoorShowE
namespace Go.Proofs.YtkpenijilnagjaaGreatDoor
open Go.RowKit

theorem show_any (ev : Off.Ev) (w : World) (hE : Env w) (hin : EvFits ev) :
    Calls Tryz.prog 40 #[evV ev] w (ShowPost w ev) := by
  obtain ⟨kd, en, eto, ek, ef, ⟨ck, ⟨R, N⟩, p, n, t, f, ⟨R2, N2⟩⟩⟩ := ev
  by_cases n1 : kd = 1
  · subst n1; exact show_do en eto ek ef ck R N p n t f R2 N2 w hE hin
  by_cases n2 : kd = 2
  · subst n2; exact show_sync en eto ek ef ck R N p n t f R2 N2 w hE hin
  by_cases n8 : kd = 8
  · subst n8; exact show_compact en eto ek ef ck R N p n t f R2 N2 w hE hin
  by_cases n7 : kd = 7
  · subst n7; exact show_start en eto ek ef ck R N p n t f R2 N2 w hE hin
  by_cases n5 : kd = 5
  · subst n5; exact show_drop en eto ek ef ck R N p n t f R2 N2 w hE hin
  by_cases n6 : kd = 6
  · subst n6; exact show_crash en eto ek ef ck R N p n t f R2 N2 w hE hin
  by_cases n3 : kd = 3
  · subst n3; exact show_tell en eto ek ef ck R N p n t f R2 N2 w hE hin
  by_cases n4 : kd = 4
  · subst n4
    cases ef
    · exact show_deliver en eto ek ck R N p n t f R2 N2 w hE hin
    · exact show_copy en eto ek ck R N p n t f R2 N2 w hE hin
  exact show_none kd en eto ek ef ck R N p n t f R2 N2 w hE hin n1 n2 n8 n7 n5 n6 n3 n4

end Go.Proofs.YtkpenijilnagjaaGreatDoor
