/- ident.Is, at kinds other than an event's. -/
import Derived.Test.YtmhhoaaoofopfaaIdc
namespace Go.Proofs.Ytmhhoaaoofopfaa
open Go.RowKit

/-- Whether a text is a name of a kind (not an event's, not a server's). -/
def isB (k : Nat) (s : List UInt8) : Bool := match splitB s with
  | some (k', _, _) => k' == k
  | none => false
theorem is_calls (w : World) (k : Nat) (s : ByteArray) (hk : k < 4) (hs : s.size < 4294967281) (hm : Mx w) :
    Calls Try.prog 11 #[.int .i64 k, .string s] w fun e w' => e = .returned (.bool (isB k s.data.toList)) ∧ Below w.heap.size w w' := by
  have HS := Lib.hid (split_calls w s hs hm)
  have HR := Lib.hid (show isB k s.data.toList = match splitB s.data.toList with | some (k', _, _) => k' == k | none => false from rfl)
  have e4 : ((k : Int) == 4) = false := beq_eq_false_iff_ne.2 (by omega)
  have e5 : ((k : Int) == 5) = false := beq_eq_false_iff_ne.2 (by omega)
  clear hs hm
  go_enter Try.func11, Try.ntmps11
  go_wp2_with fail
  refine HS.out.mono ?_
  rintro e w1 ⟨rfl, hb⟩
  have HB := Lib.hid hb
  clear hb HS
  generalize splitB s.data.toList = x at *
  cases x with
  | none =>
    have HR2 := Lib.hid HR.out
    unfold splitV codeV
    go_wp2_with fail
    go_ret
    exact ⟨by rw [HR2.out]; rfl, HB.out⟩
  | some x =>
    obtain ⟨k', p, h⟩ := x
    have HR2 := Lib.hid HR.out
    unfold splitV
    go_wp2_with fail
    go_ret
    refine ⟨?_, HB.out⟩
    rw [HR2.out]
    simp
    rw [Bool.eq_iff_iff]
    simp
    omega
end Go.Proofs.Ytmhhoaaoofopfaa
