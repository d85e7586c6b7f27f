/- AliasMains, the tied card: whatever a list of acts, a room and a list of events, the call returns true and its arguments read as they did. Condition: none of ours; the listed variable is tied to the program's text by the card. -/
import Derived.Test.YtgnoaeldmpbjmaaGreatDoorMM10
namespace Go.Proofs.YtgnoaeldmpbjmaaGreatDoor
open Go

theorem aliasMains_card : Rows.AliasMainsCardSaid :=
  Claim7.holds_tied_plain_at .later [] [.handle] true (true, "09a643e562a6485f03f46c0d3a5335cfb5c45e7056630068e8ba6f6698a166ed") true
    aliasMains.over (fun _ h => by cases h) (by kernel_rfl) (fun _ h => by cases h) aliasMains_row_tie rfl ⟨rfl, rfl⟩ (by kernel_rfl) rfl
    (fun f fn hf hfn => by
      obtain rfl : f = 3 := Option.some.inj ((show Tryz.prog.funcNamed "enfilade/enfiladelaw17.AliasMains" = some 3 by kernel_rfl).symm.trans hf) |>.symm
      obtain rfl : fn = Tryz.f3 := (Option.some.inj (Tryz.func3.symm.trans hfn)).symm
      exact ⟨by kernel_rfl, fun j t ht => by
        rw [Tryz.params3] at ht
        have hm : t ∈ [22, 9, 23] := by
          have := Array.mem_of_getElem? ht
          simp at this ⊢
          omega
        have hall : ([22, 9, 23].all fun u => !Tryz.prog.wantsStandIn u) = true := by kernel_rfl
        exact (show Tryz.prog.wantsStandIn t = false by simpa using List.all_eq_true.1 hall t hm)⟩)
    (by kernel_rfl)
#print axioms aliasMains_card
end Go.Proofs.YtgnoaeldmpbjmaaGreatDoor
