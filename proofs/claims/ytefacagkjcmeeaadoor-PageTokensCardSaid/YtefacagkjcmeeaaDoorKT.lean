/- PageTokens, the tied card: whatever is drawn, the call returns true and its arguments read as they did. Condition: none of ours; the listed tables of the library's are tied to the program's text by the card. -/
import Derived.Test.YtefacagkjcmeeaaDoorRT
namespace Go.Proofs.YtefacagkjcmeeaaDoor
open Go

theorem pageTokens_card : Rows.PageTokensCardSaid :=
  Claim7.holds_tied_plain_at .later [] [.data, .data, .data] true (true, "1cab5192f94068ba0f3044c8e4693ffb8e2207e1eaab5877d94b9d6ac984129f") true
    pageTokens.over (fun _ h => by cases h) (by kernel_rfl) (fun _ h => by cases h) pageTokens_row_tie rfl ⟨rfl, rfl⟩ (by kernel_rfl) rfl
    (fun f fn hf hfn => by
      obtain rfl : f = 4 := Option.some.inj ((show Tryd.prog.funcNamed "enfilade/enfiladelaw22.PageTokens" = some 4 by kernel_rfl).symm.trans hf) |>.symm
      obtain rfl : fn = Tryd.f4 := (Option.some.inj (Tryd.func4.symm.trans hfn)).symm
      exact ⟨by kernel_rfl, fun j t ht => by
        rw [Tryd.params4] at ht
        have hm : t ∈ [23] := by
          have := Array.mem_of_getElem? ht
          simp at this ⊢
          omega
        have hall : ([23].all fun u => !Tryd.prog.wantsStandIn u) = true := by kernel_rfl
        exact (show Tryd.prog.wantsStandIn t = false by simpa using List.all_eq_true.1 hall t hm)⟩)
    (by kernel_rfl)
#print axioms pageTokens_card
end Go.Proofs.YtefacagkjcmeeaaDoor
