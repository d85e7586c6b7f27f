/- PowerChanges, the tied card: whatever the two levels and the name, the call returns true and its arguments read as they did. Condition: none of ours; the listed variable is tied to the program's text by the card. -/
import Derived.Test.YtiehdfokcnphdaaGreatDoorRPC
namespace Go.Proofs.YtiehdfokcnphdaaGreatDoor
open Go

theorem powerChanges_card : Rows.PowerChangesCardSaid :=
  Claim7.holds_tied_plain_at .later [] [.handle] true (true, "de7ba64630dc5ba7a5bcf556b90c7618ca6eba3b5836839a867ccf822d0643f3") true
    powerChanges.over (fun _ h => by cases h) (by kernel_rfl) (fun _ h => by cases h) powerChanges_row_tie rfl ⟨rfl, rfl⟩ (by kernel_rfl) rfl
    (fun f fn hf hfn => by
      obtain rfl : f = 3 := Option.some.inj ((show Tryz.prog.funcNamed "enfilade/enfiladelaw09.PowerChanges" = some 3 by kernel_rfl).symm.trans hf) |>.symm
      obtain rfl : fn = Tryz.f3 := (Option.some.inj (Tryz.func3.symm.trans hfn)).symm
      exact ⟨by kernel_rfl, fun j t ht => by
        rw [Tryz.params3] at ht
        have hm : t ∈ [25, 25, 9] := by
          have := Array.mem_of_getElem? ht
          simp at this ⊢
          omega
        have hall : ([25, 25, 9].all fun u => !Tryz.prog.wantsStandIn u) = true := by kernel_rfl
        exact (show Tryz.prog.wantsStandIn t = false by simpa using List.all_eq_true.1 hall t hm)⟩)
    (by kernel_rfl)
#print axioms powerChanges_card
end Go.Proofs.YtiehdfokcnphdaaGreatDoor
