/- The document's ident, going on: servers, names, kinds. -/
import Derived.Test.YtgnoaeldmpbjmaaGreatDoorRf
set_option linter.unusedVariables false
namespace Go.Proofs.YtgnoaeldmpbjmaaGreatDoor
open Go.RowKit

theorem cut_colon (s : List UInt8) : Lib.cut s [58] = colonB s := by
  induction s with
  | nil => rfl
  | cons c r ih =>
    have hp : ([58] : List UInt8).isPrefixOf (c :: r) = (c == 58) := by
      simp [List.isPrefixOf]
      rw [Bool.eq_iff_iff]; simp
      exact ⟨fun h => h.symm, fun h => h.symm⟩
    have hi : Lib.index (c :: r) [58] = if (c == 58) then 0 else if Lib.index r [58] == -1 then -1 else Lib.index r [58] + 1 := by
      rw [← hp]
      rfl
    unfold colonB
    rw [← ih]
    unfold Lib.cut
    rw [hi]
    cases hc : (c == 58) with
    | true => simp
    | false =>
      have hge := Lib.index_ge r [58]
      simp only [Bool.false_eq_true, if_false]
      by_cases h1 : Lib.index r [58] = -1
      · rw [h1]; simp
      · have h2 : 0 ≤ Lib.index r [58] := by omega
        have h3 : (Lib.index r [58] == -1) = false := beq_eq_false_iff_ne.2 h1
        rw [h3]
        simp only [Bool.false_eq_true, if_false]
        rw [if_pos (by omega), if_pos h2]
        obtain ⟨n, hn⟩ : ∃ n : Nat, Lib.index r [58] = n := ⟨_, (Int.toNat_of_nonneg h2).symm⟩
        rw [hn]
        have : ((n : Int) + 1).toNat = n + 1 := by omega
        rw [this]
        simp
theorem cls_of {l : List UInt8} {p : UInt8 → Bool} (h : ∀ n : Nat, n < 256 → rinB l (UInt8.ofNat n) = p (UInt8.ofNat n)) : rinB l = p := by
  funext c
  have := h c.toNat c.toNat_lt
  rw [UInt8.ofNat_toNat] at this
  exact this
abbrev lServer : List UInt8 := [97, 98, 99, 100, 101, 102, 103, 104, 105, 106, 107, 108, 109, 110, 111, 112, 113, 114, 115, 116, 117, 118, 119, 120, 121, 122, 48, 49, 50, 51, 52, 53, 54, 55, 56, 57, 46, 45]
abbrev lPort : List UInt8 := [48, 49, 50, 51, 52, 53, 54, 55, 56, 57]
abbrev lName : List UInt8 := [97, 98, 99, 100, 101, 102, 103, 104, 105, 106, 107, 108, 109, 110, 111, 112, 113, 114, 115, 116, 117, 118, 119, 120, 121, 122, 48, 49, 50, 51, 52, 53, 54, 55, 56, 57, 46, 95, 61, 45, 47]
abbrev lOpaque : List UInt8 := [97, 98, 99, 100, 101, 102, 103, 104, 105, 106, 107, 108, 109, 110, 111, 112, 113, 114, 115, 116, 117, 118, 119, 120, 121, 122, 48, 49, 50, 51, 52, 53, 54, 55, 56, 57, 65, 66, 67, 68, 69, 70, 71, 72, 73, 74, 75, 76, 77, 78, 79, 80, 81, 82, 83, 84, 85, 86, 87, 88, 89, 90, 95, 45, 46]
set_option maxRecDepth 100000 in
theorem cls_server : rinB lServer = withB [46, 45] plainB := cls_of (by decide +kernel)
set_option maxRecDepth 100000 in
theorem cls_port : rinB lPort = digitB := cls_of (by decide +kernel)
set_option maxRecDepth 100000 in
theorem cls_name : rinB lName = nameB := cls_of (by decide +kernel)
set_option maxRecDepth 100000 in
theorem cls_opaque : rinB lOpaque = opaqueB := cls_of (by decide +kernel)
theorem rallB_eq {l : List UInt8} {p : UInt8 → Bool} (h : rinB l = p) (most : Nat) (s : List UInt8) : rallB l 1 most s = allB p most s := by
  unfold rallB allB
  rw [h]
  cases s with
  | nil => simp
  | cons a r =>
    rw [Bool.and_comm]
    simp
theorem rall1 (w : World) (s : ByteArray) (l : List UInt8) (p : UInt8 → Bool) (h : rinB l = p) (hl : l.length ≤ 1000000) (most : Nat) (hm : most < 1000) (hs : s.size ≤ 9223372036854775807) :
    Calls Tryz.prog 56 #[.string s, .int .i64 1, .int .i64 most, .string ⟨l.toArray⟩] w fun e w' => e = .returned (.bool (allB p most s.data.toList)) ∧ w' = w := by
  have := rall_calls w s ⟨l.toArray⟩ 1 most hs (by have := size_list ⟨l.toArray⟩; simp at this; omega) (by omega) hm
  rw [rallB_eq (p := p) (by simpa using h)] at this
  exact this
theorem rserver_calls (w : World) (s : ByteArray) (hs : s.size ≤ 9223372036854775807) :
    Calls Tryz.prog 29 #[.string s] w fun e w' => e = .returned (.bool (serverB s.data.toList)) ∧ Below w.heap.size w w' := by
  have HC := Lib.hid (rcolon_calls w s hs)
  have hz := cut_sizes s.data.toList [58]
  rw [cut_colon, size_list] at hz
  have HSB := Lib.hid (show serverB s.data.toList = (allB (withB [46, 45] plainB) 50 (colonB s.data.toList).1 && (!(colonB s.data.toList).2.2 || allB digitB 5 (colonB s.data.toList).2.1)) by unfold serverB; rw [cut_colon])
  obtain ⟨host, hhost⟩ : ∃ host, (colonB s.data.toList).1 = host := ⟨_, rfl⟩
  obtain ⟨port, hport⟩ : ∃ port, (colonB s.data.toList).2.1 = port := ⟨_, rfl⟩
  obtain ⟨two, htwo⟩ : ∃ two, (colonB s.data.toList).2.2 = two := ⟨_, rfl⟩
  rw [hhost, hport, htwo] at HC HSB
  rw [hhost, hport] at hz
  obtain ⟨hz1, hz2⟩ := hz
  have HA1 := Lib.hid (fun W => show Calls Tryz.prog 56 #[.string (ofL host), .int .i64 1, .int .i64 50, .string ⟨#[97, 98, 99, 100, 101, 102, 103, 104, 105, 106, 107, 108, 109, 110, 111, 112, 113, 114, 115, 116, 117, 118, 119, 120, 121, 122, 48, 49, 50, 51, 52, 53, 54, 55, 56, 57, 46, 45]⟩] W fun e w' => e = .returned (.bool (allB (withB [46, 45] plainB) 50 host)) ∧ w' = W by
    have := rall1 W (ofL host) lServer _ cls_server (by decide) 50 (by omega) (by rw [← size_list, ofL_list]; omega)
    rw [ofL_list] at this
    exact this)
  have HA2 := Lib.hid (fun W => show Calls Tryz.prog 56 #[.string (ofL port), .int .i64 1, .int .i64 5, .string ⟨#[48, 49, 50, 51, 52, 53, 54, 55, 56, 57]⟩] W fun e w' => e = .returned (.bool (allB digitB 5 port)) ∧ w' = W by
    have := rall1 W (ofL port) lPort _ cls_port (by decide) 5 (by omega) (by rw [← size_list, ofL_list]; omega)
    rw [ofL_list] at this
    exact this)
  clear hhost hport htwo hz1 hz2 hs
  go_enter Tryz.func29, Tryz.ntmps29
  go_wp2_with fail
  refine HC.out.mono ?_
  rintro e w1 ⟨rfl, hb⟩
  have HB := Lib.hid hb
  clear hb HC
  go_wp2_with fail
  refine (HA1.out w1).mono ?_
  rintro e w2 ⟨rfl, rfl⟩
  have HA := Lib.hid (HA2.out w2)
  clear HA1 HA2
  generalize allB (withB [46, 45] plainB) 50 host = b1 at *
  generalize allB digitB 5 port = b2 at *
  have hcase : (b1 = true ∧ two = true) ∨ (b1 = true ∧ two = false) ∨ b1 = false := by cases b1 <;> cases two <;> simp
  rcases hcase with ⟨rfl, rfl⟩ | ⟨rfl, rfl⟩ | rfl
  · have HS2 := Lib.hid HSB.out
    go_wp2_with fail
    refine HA.out.mono ?_
    rintro e w4 ⟨rfl, rfl⟩
    go_wp2_with fail
    go_ret
    exact ⟨by rw [HS2.out]; simp, HB.out⟩
  · have HS2 := Lib.hid HSB.out
    go_wp2_with fail
    go_ret
    exact ⟨by rw [HS2.out]; simp, HB.out⟩
  · have HS2 := Lib.hid HSB.out
    go_wp2_with fail
    go_ret
    exact ⟨by rw [HS2.out]; simp, HB.out⟩
end Go.Proofs.YtgnoaeldmpbjmaaGreatDoor
