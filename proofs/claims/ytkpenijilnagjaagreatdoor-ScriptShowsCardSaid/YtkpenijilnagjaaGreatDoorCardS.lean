/- Every call of ScriptShows returns true: the events are shown as the document shows them; the events read afterwards as they read before. The listed package-level variables hold at the call what the program's text lays (the card ties that). -/
import Derived.Test.YtkpenijilnagjaaGreatDoorRowS
namespace Go.Proofs.YtkpenijilnagjaaGreatDoor

theorem shows_card : Rows.ScriptShowsCardSaid :=
  Claim7.holds_tied_plain_at .later [] [.data, .data, .data, .data, .data, .data, .sentinel, .sentinel, .pinned] true (true, "e438894a42512514c2c8fa7926a2c10de561d28744617e86e8414514051cd64f") true
    shows_holds (fun _ h => by cases h) (by kernel_rfl) (fun _ h => by cases h) scriptShows_row_tie rfl ⟨rfl, rfl⟩ (by kernel_rfl) rfl
    (fun f fn hf hfn => by
      obtain rfl : f = 4 := Option.some.inj ((show Tryz.prog.funcNamed "offshoot/offshootlaw25.ScriptShows" = some 4 by kernel_rfl).symm.trans hf) |>.symm
      obtain rfl : fn = Tryz.f4 := (Option.some.inj (Tryz.func4.symm.trans hfn)).symm
      exact ⟨by kernel_rfl, fun j t ht => by
        rw [Tryz.params4] at ht
        have hm : t ∈ [23] := by
          have := Array.mem_of_getElem? ht
          simpa using this
        have hall : ([23].all fun u => !Tryz.prog.wantsStandIn u) = true := by kernel_rfl
        exact (show Tryz.prog.wantsStandIn t = false by simpa using List.all_eq_true.1 hall t hm)⟩)
    (by kernel_rfl)

#print axioms shows_card
end Go.Proofs.YtkpenijilnagjaaGreatDoor
