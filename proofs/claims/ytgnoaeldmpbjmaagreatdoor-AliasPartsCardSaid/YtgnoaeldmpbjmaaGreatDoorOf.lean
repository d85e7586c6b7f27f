/- ident: a name's server; whether a text is a server's name. -/
import Derived.Test.YtgnoaeldmpbjmaaGreatDoorIdd
namespace Go.Proofs.YtgnoaeldmpbjmaaGreatDoor
open Go.RowKit

def ofB (s : List UInt8) : List UInt8 := match splitB s with
  | some (_, _, h) => h
  | none => []
theorem of_calls (w : World) (s : ByteArray) (hs : s.size < 4294967281) (hm : Mx w) :
    Calls Tryz.prog 48 #[.string s] w fun e w' => e = .returned (.string (ofL (ofB s.data.toList))) ∧ Below w.heap.size w w' := by
  have HS := Lib.hid (split_calls w s hs hm)
  have HR := Lib.hid (show ofB s.data.toList = match splitB s.data.toList with | some (_, _, h) => h | none => [] from rfl)
  clear hm
  go_enter Tryz.func48, Tryz.ntmps48
  go_wp2_with fail
  refine HS.out.mono ?_
  rintro e w1 ⟨rfl, hb⟩
  have HB := Lib.hid hb
  clear hb HS
  generalize splitB s.data.toList = x at *
  match x with
  | none =>
    unfold splitV
    go_wp2_with fail
    go_ret
    exact ⟨by rw [HR.out]; rfl, HB.out⟩
  | some (k, p, h) =>
    unfold splitV
    go_wp2_with fail
    go_ret
    exact ⟨by rw [HR.out]; rfl, HB.out⟩
theorem isServer_calls (w : World) (s : ByteArray) (hs : s.size < 4294967281) (hm : Mx w) :
    Calls Tryz.prog 27 #[.int .i64 5, .string s] w fun e w' => e = .returned (.bool (serverB s.data.toList)) ∧ Below w.heap.size w w' := by
  have HS := Lib.hid (server_calls w s hs hm)
  clear hm
  go_enter Tryz.func27, Tryz.ntmps27
  go_wp2_with fail
  refine HS.out.mono ?_
  rintro e w1 ⟨rfl, hb⟩
  have HB := Lib.hid hb
  clear hb HS
  go_wp2_with fail
  go_ret
  exact ⟨rfl, HB.out⟩
end Go.Proofs.YtgnoaeldmpbjmaaGreatDoor
