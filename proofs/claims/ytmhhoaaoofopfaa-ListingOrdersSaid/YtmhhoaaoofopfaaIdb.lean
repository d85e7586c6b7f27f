/- ident, the end: a server's name, a name's parts, whether it is of a kind. -/
import Derived.Test.YtmhhoaaoofopfaaIda
namespace Go.Proofs.Ytmhhoaaoofopfaa
open Go.RowKit

def ofL (l : List UInt8) : ByteArray := ⟨l.toArray⟩
theorem ofL_list (l : List UInt8) : (ofL l).data.toList = l := by simp [ofL]
def serverB (s : List UInt8) : Bool := allB (withB [46, 45] plainB) 50 (Lib.cut s [58]).1 && (!(Lib.cut s [58]).2.2 || allB digitB 5 (Lib.cut s [58]).2.1)
def nameB : UInt8 → Bool := withB [46, 95, 61, 45, 47] plainB
theorem cut_sizes (s sep : List UInt8) : (Lib.cut s sep).1.length ≤ s.length ∧ (Lib.cut s sep).2.1.length ≤ s.length := by
  unfold Lib.cut
  split
  · simp; omega
  · simp
theorem size_list (s : ByteArray) : s.data.toList.length = s.size := Array.length_toList

theorem server_calls (w : World) (s : ByteArray) (hs : s.size < 4294967281) (hm : Mx w) :
    Calls Try.prog 19 #[.string s] w fun e w' => e = .returned (.bool (serverB s.data.toList)) ∧ Below w.heap.size w w' := by
  have hpos := hm.pos
  obtain ⟨m, hm⟩ := hm
  have HC := Lib.hid (Try.strings_Cut s ⟨#[58]⟩ m w hs hm)
  have hsz := cut_sizes s.data.toList [58]
  rw [size_list] at hsz
  obtain ⟨hz1, hz2⟩ := hsz
  have HSB := Lib.hid (show serverB s.data.toList = (allB (withB [46, 45] plainB) 50 (Lib.cut s.data.toList [58]).1 && (!(Lib.cut s.data.toList [58]).2.2 || allB digitB 5 (Lib.cut s.data.toList [58]).2.1)) from rfl)
  clear hm
  have e58 : (⟨#[58]⟩ : ByteArray).data.toList = [58] := rfl
  rw [e58] at HC
  clear e58
  obtain ⟨host, hhost⟩ : ∃ host, (Lib.cut s.data.toList [58]).1 = host := ⟨_, rfl⟩
  obtain ⟨port, hport⟩ : ∃ port, (Lib.cut s.data.toList [58]).2.1 = port := ⟨_, rfl⟩
  obtain ⟨two, htwo⟩ : ∃ two, (Lib.cut s.data.toList [58]).2.2 = two := ⟨_, rfl⟩
  rw [hhost, hport, htwo] at HC HSB
  rw [hhost] at hz1
  rw [hport] at hz2
  clear hhost hport htwo
  have h1 : (ofL host).size ≤ 9223372036854775807 := by rw [← size_list, ofL_list]; omega
  have h2 : (ofL port).size ≤ 9223372036854775807 := by rw [← size_list, ofL_list]; omega
  have HALL1 := Lib.hid (fun (W : World) (gf gm : Nat) (hf : W.cell? ⟨gf, 0, none⟩ = some (.func (.func 32) #[] #[])) (hm : W.cell? ⟨gm, 0, none⟩ = some (.string ⟨#[46, 45]⟩)) =>
    all_calls W (ofL host) 50 40 #[] #[.pointer (some ⟨gf, 0, none⟩), .pointer (some ⟨gm, 0, none⟩)] (withB [46, 45] plainB) h1 enter_with1 (fun c => with1_calls W gf gm ⟨#[46, 45]⟩ c hf hm))
  have HALL2 := Lib.hid (fun (W : World) => all_calls W (ofL port) 5 29 #[] #[] digitB h2 enter_digit (fun c => digit_calls W c))
  clear h1 h2 hz1 hz2
  go_enter Try.func19, Try.ntmps19
  go_wp2_with fail
  refine HC.out.mono ?_
  rintro e w1 ⟨rfl, n, rfl⟩
  have HW0 := Lib.hid (below_drewN' (Below.refl w.heap.size w) n)
  clear HC
  go_wp2_with fail
  refine (with_calls (w.drewN n) ⟨#[46, 45]⟩).mono ?_
  rintro e w2 ⟨rfl, rfl⟩
  have HW1 := Lib.hid (show Below w.heap.size w _ from (HW0.out.alloc HW0.out.size (.cells #[.string ⟨#[46, 45]⟩] 9)).alloc (by simp) (.cells #[.func (.func 32) #[] #[]] 65))
  go_wp2_with fail
  have hq1 : (((w.drewN n).alloc (.cells #[.string ⟨#[46, 45]⟩] 9)).alloc (.cells #[.func (.func 32) #[] #[]] 65)).cell? ⟨w.heap.size + 1, 0, none⟩ = some (.func (.func 32) #[] #[]) := cell_new _ _ _ _ _ _ (by simp)
  have hq2 : (((w.drewN n).alloc (.cells #[.string ⟨#[46, 45]⟩] 9)).alloc (.cells #[.func (.func 32) #[] #[]] 65)).cell? ⟨w.heap.size, 0, none⟩ = some (.string ⟨#[46, 45]⟩) := (cell_old _ _ _ (by simp)).trans (cell_new _ _ _ _ _ _ rfl)
  have HA1 := HALL1.out (((w.drewN n).alloc (.cells #[.string ⟨#[46, 45]⟩] 9)).alloc (.cells #[.func (.func 32) #[] #[]] 65)) (w.heap.size + 1) w.heap.size hq1 hq2
  clear hq1 hq2
  rw [ofL_list] at HA1
  refine HA1.mono ?_
  rintro e w3 ⟨rfl, rfl⟩
  clear HA1 HALL1 HW0
  have HA2 := HALL2.out (((w.drewN n).alloc (.cells #[.string ⟨#[46, 45]⟩] 9)).alloc (.cells #[.func (.func 32) #[] #[]] 65))
  rw [ofL_list] at HA2
  have HA3 := Lib.hid HA2
  clear HA2 HALL2
  generalize (((w.drewN n).alloc (.cells #[.string ⟨#[46, 45]⟩] 9)).alloc (.cells #[.func (.func 32) #[] #[]] 65)) = w3 at *
  generalize allB (withB [46, 45] plainB) 50 host = b1 at *
  generalize allB digitB 5 port = b2 at *
  have hcase : (b1 = true ∧ two = true) ∨ (b1 = true ∧ two = false) ∨ b1 = false := by cases b1 <;> cases two <;> simp
  rcases hcase with ⟨rfl, rfl⟩ | ⟨rfl, rfl⟩ | rfl
  · have HS2 := Lib.hid HSB.out
    go_wp2_with fail
    refine HA3.out.mono ?_
    rintro e w4 ⟨rfl, rfl⟩
    go_wp2_with fail
    go_ret
    exact ⟨by rw [HS2.out]; simp, HW1.out⟩
  · have HS2 := Lib.hid HSB.out
    go_wp2_with fail
    go_ret
    exact ⟨by rw [HS2.out]; simp, HW1.out⟩
  · have HS2 := Lib.hid HSB.out
    go_wp2_with fail
    go_ret
    exact ⟨by rw [HS2.out]; simp, HW1.out⟩
end Go.Proofs.Ytmhhoaaoofopfaa
