/- value.Members: a map of members with unlike keys. -/
import Derived.Test.YtiehdfokcnphdaaGreatDoorSo
namespace Go.Proofs.YtiehdfokcnphdaaGreatDoor
open Go.RowKit

set_option maxRecDepth 100000 in
theorem stable_calls (w : World) (r cap : Nat) (l : List Mb) (hn : l.length ≤ 19) (hrw : Rw w 48 r cap 7 (mcells l)) :
    Calls Tryz.prog 49 #[.slice (some ⟨r, 0, none⟩) l.length cap, .int .i64 l.length, .func (.func 28) #[] #[]] w
      fun e w' => e = .returned (.tuple #[]) ∧ ∃ l', SortedOf l l' ∧ Rw w' 48 r cap 7 (mcells l') ∧ w.grownBy w' (some r) := by
  have HI := Lib.hid (insert_calls w r cap l (by omega) hrw)
  clear hrw
  go_enter Tryz.func49, Tryz.ntmps49
  go_wp2_with fail
  go_loopw [7, 8] (fun c7 c8 wr => c7 = .int .i64 0 ∧ c8 = .int .i64 20 ∧ wr = w) (fun _ _ _ => 0)
  case atStart => exact ⟨rfl, rfl, rfl⟩
  case round =>
    obtain ⟨rfl, rfl, rfl⟩ := hrel
    go_wp2_with fail
    refine HI.out.mono ?_
    rintro e w1 ⟨rfl, hr⟩
    have HR := Lib.hid hr
    clear hr HI
    go_wp2_with fail
    go_loopw [6] (fun c6 wr => c6 = .int .i64 20 ∧ wr = w1) (fun _ _ => 0)
    case atStart => exact ⟨rfl, rfl⟩
    case round =>
      obtain ⟨rfl, rfl⟩ := hrel
      go_wp2_with fail
      go_end0
      exact ⟨rfl, HR.out⟩
theorem sorts_calls (w : World) (r cap : Nat) (l : List Mb) (hn : l.length ≤ 19) (hrw : Rw w 48 r cap 7 (mcells l)) :
    Calls Tryz.prog 27 #[.slice (some ⟨r, 0, none⟩) l.length cap, .func (.func 28) #[] #[]] w
      fun e w' => e = .returned (.tuple #[]) ∧ ∃ l', SortedOf l l' ∧ Rw w' 48 r cap 7 (mcells l') ∧ w.grownBy w' (some r) := by
  have HI := Lib.hid (stable_calls w r cap l hn hrw)
  clear hrw
  go_enter Tryz.func27, Tryz.ntmps27
  go_wp2_with fail
  refine HI.out.mono ?_
  rintro e w1 ⟨rfl, hr⟩
  have HR := Lib.hid hr
  clear hr HI
  go_wp2_with fail
  go_end0
  exact ⟨rfl, HR.out⟩

set_option maxRecDepth 100000 in
theorem insert_nil (w : World) : Calls Tryz.prog 63 #[.slice none 0 0, .int .i64 0, .int .i64 0, .func (.func 28) #[] #[]] w fun e w' => e = .returned (.tuple #[]) ∧ w' = w := by
  go_enter Tryz.func63, Tryz.ntmps63
  go_wp2_with fail
  go_loopw [8] (fun c8 wr => c8 = .int .i64 1 ∧ wr = w) (fun _ _ => 0)
  case atStart => exact ⟨rfl, rfl⟩
  case round =>
    obtain ⟨rfl, rfl⟩ := hrel
    go_wp2_with fail
    go_end0
    exact ⟨rfl, rfl⟩
set_option maxRecDepth 100000 in
theorem stable_nil (w : World) : Calls Tryz.prog 49 #[.slice none 0 0, .int .i64 0, .func (.func 28) #[] #[]] w fun e w' => e = .returned (.tuple #[]) ∧ w' = w := by
  have HI := Lib.hid (insert_nil w)
  go_enter Tryz.func49, Tryz.ntmps49
  go_wp2_with fail
  go_loopw [7, 8] (fun c7 c8 wr => c7 = .int .i64 0 ∧ c8 = .int .i64 20 ∧ wr = w) (fun _ _ _ => 0)
  case atStart => exact ⟨rfl, rfl, rfl⟩
  case round =>
    obtain ⟨rfl, rfl, rfl⟩ := hrel
    go_wp2_with fail
    refine HI.out.mono ?_
    rintro e w1 ⟨rfl, rfl⟩
    go_wp2_with fail
    go_loopw [6] (fun c6 wr => c6 = .int .i64 20 ∧ wr = w1) (fun _ _ => 0)
    case atStart => exact ⟨rfl, rfl⟩
    case round =>
      obtain ⟨rfl, rfl⟩ := hrel
      go_wp2_with fail
      go_end0
      exact ⟨rfl, rfl⟩
theorem sorts_nil (w : World) : Calls Tryz.prog 27 #[.slice none 0 0, .func (.func 28) #[] #[]] w fun e w' => e = .returned (.tuple #[]) ∧ w' = w := by
  have HI := Lib.hid (stable_nil w)
  go_enter Tryz.func27, Tryz.ntmps27
  go_wp2_with fail
  refine HI.out.mono ?_
  rintro e w1 ⟨rfl, rfl⟩
  go_wp2_with fail
  go_end0
  exact ⟨rfl, rfl⟩
end Go.Proofs.YtiehdfokcnphdaaGreatDoor
