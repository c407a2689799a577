/- Every call of ScriptJoins returns true: two scripts, one behind the other, are one with both their events; both strings read afterwards as they read before. The listed package-level variables hold at the call what the program's text lays (the card ties that). -/
import Derived.Test.YtkpenijilnagjaaDoorRowJ
namespace Go.Proofs.YtkpenijilnagjaaDoor

theorem joins_card : Rows.ScriptJoinsCardSaid :=
  Claim7.holds_tied_plain_at .later [] [.data, .data, .data, .data, .data, .data, .sentinel, .sentinel, .pinned] true (true, "50d722d1161e7524552b492aa025913cb4142b38775996401a42211563218781") true
    joins_holds (fun _ h => by cases h) (by kernel_rfl) (fun _ h => by cases h) scriptJoins_row_tie rfl ⟨rfl, rfl⟩ (by kernel_rfl) rfl
    (fun f fn hf hfn => by
      obtain rfl : f = 4 := Option.some.inj ((show Tryd.prog.funcNamed "offshoot/offshootlaw25.ScriptJoins" = some 4 by kernel_rfl).symm.trans hf) |>.symm
      obtain rfl : fn = Tryd.f4 := (Option.some.inj (Tryd.func4.symm.trans hfn)).symm
      exact ⟨by kernel_rfl, fun j t ht => by
        rw [Tryd.params4] at ht
        have hm : t ∈ [9] := by
          have := Array.mem_of_getElem? ht
          simpa using this
        have hall : ([9].all fun u => !Tryd.prog.wantsStandIn u) = true := by kernel_rfl
        exact (show Tryd.prog.wantsStandIn t = false by simpa using List.all_eq_true.1 hall t hm)⟩)
    (by kernel_rfl)

#print axioms joins_card
end Go.Proofs.YtkpenijilnagjaaDoor
