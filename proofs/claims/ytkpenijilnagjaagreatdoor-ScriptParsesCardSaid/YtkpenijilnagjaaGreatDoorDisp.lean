/- All words of an event, all kinds of a command, together. -/
import Derived.Test.YtkpenijilnagjaaGreatDoorEvA
import Derived.Test.YtkpenijilnagjaaGreatDoorEvB
import Derived.Test.YtkpenijilnagjaaGreatDoorEvC
import Derived.Test.YtkpenijilnagjaaGreatDoorLCmdA
import Derived.Test.YtkpenijilnagjaaGreatDoorLCmdB
import Derived.Test.YtkpenijilnagjaaGreatDoorLCmdC
namespace Go.Proofs.YtkpenijilnagjaaGreatDoor
open Go.RowKit

theorem event_any (b : Nat) (s : List UInt8) (w : World) (hE : Env w) (hb : Scan b s w) (h10 : 10 ≤ b) (hs : s.length < 4294967281) :
    Calls Tryz.prog 68 #[.pointer (some ⟨b, 0, none⟩)] w (EvPost b w (Off.event s)) := by
  by_cases n0 : Off.upto 32 s = Off.sDo
  · exact event_do b s w hE hb h10 hs n0
  by_cases n1 : Off.upto 32 s = Off.sSync
  · exact event_sync b s w hE hb h10 hs n1
  by_cases n2 : Off.upto 32 s = Off.sCompact
  · exact event_compact b s w hE hb h10 hs n2
  by_cases n3 : Off.upto 32 s = Off.sStart
  · exact event_start b s w hE hb h10 hs n3
  by_cases n4 : Off.upto 32 s = Off.sDrop
  · exact event_drop b s w hE hb h10 hs n4
  by_cases n5 : Off.upto 32 s = Off.sCrash
  · exact event_crash b s w hE hb h10 hs n5
  by_cases n6 : Off.upto 32 s = Off.sTell
  · exact event_tell b s w hE hb h10 hs n6
  by_cases n7 : Off.upto 32 s = Off.sDeliver
  · exact event_deliver b s w hE hb h10 hs n7
  by_cases n8 : Off.upto 32 s = Off.sCopy
  · exact event_copy b s w hE hb h10 hs n8
  exact event_none b s w hE hb h10 hs n0 n1 n2 n3 n4 n5 n6 n7 n8

theorem lcmd_any (b : Nat) (v0 : Value) (ws : List (List UInt8)) (c : Off.Cmd) (w : World) (hE : Env w) (h10 : 10 ≤ b) (hl : LineIs b v0 ws w) (hin : CmdFits c) (hws : ws.length ≤ 10) :
    Calls Tryz.prog 76 #[.pointer (some ⟨b, 0, none⟩), cmdV c] w (LCmdPost b w ws c) := by
  by_cases n1 : c.kind = 1
  · exact lcmd_new b v0 ws c w hE h10 hl hin hws n1
  by_cases n2 : c.kind = 2
  · exact lcmd_type b v0 ws c w hE h10 hl hin hws n2
  by_cases n3 : c.kind = 3
  · exact lcmd_erase b v0 ws c w hE h10 hl hin hws n3
  by_cases n4 : c.kind = 4
  · exact lcmd_split b v0 ws c w hE h10 hl hin hws n4
  by_cases n13 : c.kind = 13
  · exact lcmd_move b v0 ws c w hE h10 hl hin hws n13
  by_cases n14 : c.kind = 14
  · exact lcmd_place b v0 ws c w hE h10 hl hin hws n14
  by_cases n12 : c.kind = 12
  · exact lcmd_fold b v0 ws c w hE h10 hl hin hws n12
  exact lcmd_other b v0 ws c w hE h10 hl hin hws n1 n2 n3 n4 n12 n13 n14

end Go.Proofs.YtkpenijilnagjaaGreatDoor
