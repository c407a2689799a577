/- Every call of ScriptBack returns true: events that are shown are parsed as they were, and a text that is parsed is shown as it was; the events and the text read afterwards as they read before. The listed package-level variables hold at the call what the program's text lays (the card ties that). -/
import Derived.Test.YtkpenijilnagjaaDoorRowB
namespace Go.Proofs.YtkpenijilnagjaaDoor

theorem back_card : Rows.ScriptBackCardSaid :=
  Claim7.holds_tied_plain_at .later [] [.data, .data, .data, .data, .data, .data, .sentinel, .sentinel, .pinned] true (true, "50d722d1161e7524552b492aa025913cb4142b38775996401a42211563218781") true
    back_holds (fun _ h => by cases h) (by kernel_rfl) (fun _ h => by cases h) scriptBack_row_tie rfl ⟨rfl, rfl⟩ (by kernel_rfl) rfl
    (fun f fn hf hfn => by
      obtain rfl : f = 3 := Option.some.inj ((show Tryd.prog.funcNamed "offshoot/offshootlaw25.ScriptBack" = some 3 by kernel_rfl).symm.trans hf) |>.symm
      obtain rfl : fn = Tryd.f3 := (Option.some.inj (Tryd.func3.symm.trans hfn)).symm
      exact ⟨by kernel_rfl, fun j t ht => by
        rw [Tryd.params3] at ht
        have hm : t ∈ [22, 9] := by
          have := Array.mem_of_getElem? ht
          simpa using this
        have hall : ([22, 9].all fun u => !Tryd.prog.wantsStandIn u) = true := by kernel_rfl
        exact (show Tryd.prog.wantsStandIn t = false by simpa using List.all_eq_true.1 hall t hm)⟩)
    (by kernel_rfl)

#print axioms back_card
end Go.Proofs.YtkpenijilnagjaaDoor
