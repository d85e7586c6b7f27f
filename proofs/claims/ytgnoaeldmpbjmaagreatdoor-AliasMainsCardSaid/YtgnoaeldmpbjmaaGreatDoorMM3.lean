/- The document's ident, going on: servers, names, kinds. -/
import Derived.Test.YtgnoaeldmpbjmaaGreatDoorMM2
import Derived.Test.YtgnoaeldmpbjmaaGreatDoorMM1
import Derived.BigRegion
import Derived.Deep.RegionHeld3
import Derived.Deep.AppendLies
import Derived.Deep.DeepCutAuto
import Derived.Test.YtgnoaeldmpbjmaaGreatDoorRows
import Derived.Test.YtgnoaeldmpbjmaaGreatDoorTie
import Derived.Test.YtgnoaeldmpbjmaaGreatDoorCards
import Derived.WalkKit
import Derived.ProofKit
import Derived.HandedShaped
import Derived.OpenShut
import Derived.ShutString
import Derived.ChangeOld
import Derived.Below
import Derived.SizedLaws
import Derived.Carry
import Derived.LaidMore
import Derived.LaidLaws
import Derived.LaidHandle
import Derived.Stop.Joined
import Derived.SevenTiedAt
import Derived.Lib.LaidTab
import Derived.Lib.SmallJoins
import Derived.ChangeMaps5
set_option linter.unusedVariables false
namespace Go.Proofs.YtgnoaeldmpbjmaaGreatDoor
open Go.RowKit

theorem cut_colon (s : List UInt8) : Lib.cut s [58] = colonB s := by
  induction s with
  | nil => rfl
  | cons c r ih =>
    have hp : ([58] : List UInt8).isPrefixOf (c :: r) = (c == 58) := by
      simp [List.isPrefixOf]
      rw [Bool.eq_iff_iff]; simp
      exact ⟨fun h => h.symm, fun h => h.symm⟩
    have hi : Lib.index (c :: r) [58] = if (c == 58) then 0 else if Lib.index r [58] == -1 then -1 else Lib.index r [58] + 1 := by
      rw [← hp]
      rfl
    unfold colonB
    rw [← ih]
    unfold Lib.cut
    rw [hi]
    cases hc : (c == 58) with
    | true => simp
    | false =>
      have hge := Lib.index_ge r [58]
      simp only [Bool.false_eq_true, if_false]
      by_cases h1 : Lib.index r [58] = -1
      · rw [h1]; simp
      · have h2 : 0 ≤ Lib.index r [58] := by omega
        have h3 : (Lib.index r [58] == -1) = false := beq_eq_false_iff_ne.2 h1
        rw [h3]
        simp only [Bool.false_eq_true, if_false]
        rw [if_pos (by omega), if_pos h2]
        obtain ⟨n, hn⟩ : ∃ n : Nat, Lib.index r [58] = n := ⟨_, (Int.toNat_of_nonneg h2).symm⟩
        rw [hn]
        have : ((n : Int) + 1).toNat = n + 1 := by omega
        rw [this]
        simp
theorem cls_of {l : List UInt8} {p : UInt8 → Bool} (h : ∀ n : Nat, n < 256 → rinB l (UInt8.ofNat n) = p (UInt8.ofNat n)) : rinB l = p := by
  funext c
  have := h c.toNat c.toNat_lt
  rw [UInt8.ofNat_toNat] at this
  exact this
abbrev lServer : List UInt8 := [97, 98, 99, 100, 101, 102, 103, 104, 105, 106, 107, 108, 109, 110, 111, 112, 113, 114, 115, 116, 117, 118, 119, 120, 121, 122, 48, 49, 50, 51, 52, 53, 54, 55, 56, 57, 46, 45]
abbrev lPort : List UInt8 := [48, 49, 50, 51, 52, 53, 54, 55, 56, 57]
abbrev lName : List UInt8 := [97, 98, 99, 100, 101, 102, 103, 104, 105, 106, 107, 108, 109, 110, 111, 112, 113, 114, 115, 116, 117, 118, 119, 120, 121, 122, 48, 49, 50, 51, 52, 53, 54, 55, 56, 57, 46, 95, 61, 45, 47]
abbrev lOpaque : List UInt8 := [97, 98, 99, 100, 101, 102, 103, 104, 105, 106, 107, 108, 109, 110, 111, 112, 113, 114, 115, 116, 117, 118, 119, 120, 121, 122, 48, 49, 50, 51, 52, 53, 54, 55, 56, 57, 65, 66, 67, 68, 69, 70, 71, 72, 73, 74, 75, 76, 77, 78, 79, 80, 81, 82, 83, 84, 85, 86, 87, 88, 89, 90, 95, 45, 46]
set_option maxRecDepth 100000 in
theorem cls_server : rinB lServer = withB [46, 45] plainB := cls_of (by decide +kernel)
set_option maxRecDepth 100000 in
theorem cls_port : rinB lPort = digitB := cls_of (by decide +kernel)
set_option maxRecDepth 100000 in
theorem cls_name : rinB lName = nameB := cls_of (by decide +kernel)
set_option maxRecDepth 100000 in
theorem cls_opaque : rinB lOpaque = opaqueB := cls_of (by decide +kernel)
theorem rallB_eq {l : List UInt8} {p : UInt8 → Bool} (h : rinB l = p) (most : Nat) (s : List UInt8) : rallB l 1 most s = allB p most s := by
  unfold rallB allB
  rw [h]
  cases s with
  | nil => simp
  | cons a r =>
    rw [Bool.and_comm]
    simp
theorem rall1 (w : World) (s : ByteArray) (l : List UInt8) (p : UInt8 → Bool) (h : rinB l = p) (hl : l.length ≤ 1000000) (most : Nat) (hm : most < 1000) (hs : s.size ≤ 9223372036854775807) :
    Calls Tryz.prog 56 #[.string s, .int .i64 1, .int .i64 most, .string ⟨l.toArray⟩] w fun e w' => e = .returned (.bool (allB p most s.data.toList)) ∧ w' = w := by
  have := rall_calls w s ⟨l.toArray⟩ 1 most hs (by have := size_list ⟨l.toArray⟩; simp at this; omega) (by omega) hm
  rw [rallB_eq (p := p) (by simpa using h)] at this
  exact this
theorem rserver_calls (w : World) (s : ByteArray) (hs : s.size ≤ 9223372036854775807) :
    Calls Tryz.prog 29 #[.string s] w fun e w' => e = .returned (.bool (serverB s.data.toList)) ∧ Below w.heap.size w w' := by
  have HC := Lib.hid (rcolon_calls w s hs)
  have hz := cut_sizes s.data.toList [58]
  rw [cut_colon, size_list] at hz
  have HSB := Lib.hid (show serverB s.data.toList = (allB (withB [46, 45] plainB) 50 (colonB s.data.toList).1 && (!(colonB s.data.toList).2.2 || allB digitB 5 (colonB s.data.toList).2.1)) by unfold serverB; rw [cut_colon])
  obtain ⟨host, hhost⟩ : ∃ host, (colonB s.data.toList).1 = host := ⟨_, rfl⟩
  obtain ⟨port, hport⟩ : ∃ port, (colonB s.data.toList).2.1 = port := ⟨_, rfl⟩
  obtain ⟨two, htwo⟩ : ∃ two, (colonB s.data.toList).2.2 = two := ⟨_, rfl⟩
  rw [hhost, hport, htwo] at HC HSB
  rw [hhost, hport] at hz
  obtain ⟨hz1, hz2⟩ := hz
  have HA1 := Lib.hid (fun W => show Calls Tryz.prog 56 #[.string (ofL host), .int .i64 1, .int .i64 50, .string ⟨#[97, 98, 99, 100, 101, 102, 103, 104, 105, 106, 107, 108, 109, 110, 111, 112, 113, 114, 115, 116, 117, 118, 119, 120, 121, 122, 48, 49, 50, 51, 52, 53, 54, 55, 56, 57, 46, 45]⟩] W fun e w' => e = .returned (.bool (allB (withB [46, 45] plainB) 50 host)) ∧ w' = W by
    have := rall1 W (ofL host) lServer _ cls_server (by decide) 50 (by omega) (by rw [← size_list, ofL_list]; omega)
    rw [ofL_list] at this
    exact this)
  have HA2 := Lib.hid (fun W => show Calls Tryz.prog 56 #[.string (ofL port), .int .i64 1, .int .i64 5, .string ⟨#[48, 49, 50, 51, 52, 53, 54, 55, 56, 57]⟩] W fun e w' => e = .returned (.bool (allB digitB 5 port)) ∧ w' = W by
    have := rall1 W (ofL port) lPort _ cls_port (by decide) 5 (by omega) (by rw [← size_list, ofL_list]; omega)
    rw [ofL_list] at this
    exact this)
  clear hhost hport htwo hz1 hz2 hs
  go_enter Tryz.func29, Tryz.ntmps29
  go_wp2_with fail
  refine HC.out.mono ?_
  rintro e w1 ⟨rfl, hb⟩
  have HB := Lib.hid hb
  clear hb HC
  go_wp2_with fail
  refine (HA1.out w1).mono ?_
  rintro e w2 ⟨rfl, rfl⟩
  have HA := Lib.hid (HA2.out w2)
  clear HA1 HA2
  generalize allB (withB [46, 45] plainB) 50 host = b1 at *
  generalize allB digitB 5 port = b2 at *
  have hcase : (b1 = true ∧ two = true) ∨ (b1 = true ∧ two = false) ∨ b1 = false := by cases b1 <;> cases two <;> simp
  rcases hcase with ⟨rfl, rfl⟩ | ⟨rfl, rfl⟩ | rfl
  · have HS2 := Lib.hid HSB.out
    go_wp2_with fail
    refine HA.out.mono ?_
    rintro e w4 ⟨rfl, rfl⟩
    go_wp2_with fail
    go_ret
    exact ⟨by rw [HS2.out]; simp, HB.out⟩
  · have HS2 := Lib.hid HSB.out
    go_wp2_with fail
    go_ret
    exact ⟨by rw [HS2.out]; simp, HB.out⟩
  · have HS2 := Lib.hid HSB.out
    go_wp2_with fail
    go_ret
    exact ⟨by rw [HS2.out]; simp, HB.out⟩
end Go.Proofs.YtgnoaeldmpbjmaaGreatDoor
/- The document's ident: a name's parts, its kind. -/
set_option linter.unusedVariables false
namespace Go.Proofs.YtgnoaeldmpbjmaaGreatDoor
open Go.RowKit

def rsplitV : Option (Nat × List UInt8 × List UInt8) → Value
  | some (k, p, h) => .tuple #[.int .i64 k, .string (ofL p), .string (ofL h)]
  | none => .tuple #[.int .i64 0, .string ⟨#[]⟩, .string ⟨#[]⟩]
set_option maxRecDepth 100000 in
theorem rsplit_calls (w : World) (s : ByteArray) (hs : s.size ≤ 9223372036854775807) :
    Calls Tryz.prog 84 #[.string s] w fun e w' => e = .returned (rsplitV (splitB s.data.toList)) ∧ Below w.heap.size w w' := by
  by_cases h0 : s.size = 0
  · have hse : s = ⟨#[]⟩ := ByteArray.ext (Array.size_eq_zero_iff.1 h0)
    subst hse
    clear h0
    go_enter Tryz.func84, Tryz.ntmps84
    go_wp2_with fail
    refine bodyPost_ret (results_tmp3 rfl _ _ _) rfl ?_
    exact ⟨rfl, Below.refl _ _⟩
  · have hpos : 0 < s.size := by omega
    have hemp : s.data.toList.isEmpty = false := by
      cases h : s.data.toList with
      | nil => have := size_list s; rw [h] at this; simp at this; omega
      | cons a b => rfl
    have hne : ¬ s.toList = [] := by
      rw [ByteArray.toList_eq]
      intro e
      rw [e] at hemp
      cases hemp
    have hne2 : s.toList.isEmpty = false := by rw [ByteArray.toList_eq]; exact hemp
    obtain ⟨c, r, hcr⟩ : ∃ c r, s.data.toList = c :: r := by
      cases h : s.data.toList with
      | nil => have := size_list s; rw [h] at this; simp at this; omega
      | cons a b => exact ⟨a, b, rfl⟩
    have hc0 : s[0] = c := by
      have h1 := byte_at s 0 hpos
      rw [hcr] at h1
      simpa using h1.symm
    have hrs := extract_back s 1
    rw [hcr, List.drop_one, List.tail_cons] at hrs
    have hrl : r.length ≤ 9223372036854775807 := by
      have := size_list s
      rw [hcr] at this
      simp at this
      omega
    have hrsz : (s.extract 1 s.size).size ≤ 9223372036854775807 := by rw [hrs, ← size_list, ofL_list]; exact hrl
    have hC := fun W => rcolon_calls W (s.extract 1 s.size) hrsz
    have hrd : (s.extract 1 s.size).data.toList = r := by rw [hrs, ofL_list]
    rw [hrd] at hC
    have hz := cut_sizes r [58]
    rw [cut_colon] at hz
    have HSP := Lib.hid (show splitB s.data.toList = if kindOf c = 0 then none else if (colonB r).2.2 && allB (fitOf c) 50 (colonB r).1 && serverB (colonB r).2.1 then some (kindOf c, (colonB r).1, (colonB r).2.1) else none by rw [hcr, ← cut_colon]; rfl)
    obtain ⟨part, hpart⟩ : ∃ part, (colonB r).1 = part := ⟨_, rfl⟩
    obtain ⟨host, hhost⟩ : ∃ host, (colonB r).2.1 = host := ⟨_, rfl⟩
    obtain ⟨two, htwo⟩ : ∃ two, (colonB r).2.2 = two := ⟨_, rfl⟩
    rw [hpart, hhost] at hz
    rw [hpart, hhost, htwo] at hC HSP
    have hp1 : (ofL part).size ≤ 9223372036854775807 := by rw [← size_list, ofL_list]; omega
    have hp2 : (ofL host).size ≤ 9223372036854775807 := by rw [← size_list, ofL_list]; omega
    have HAN := Lib.hid (fun W => show Calls Tryz.prog 56 #[.string (ofL part), .int .i64 1, .int .i64 50, .string ⟨lName.toArray⟩] W fun e w' => e = .returned (.bool (allB nameB 50 part)) ∧ w' = W by
      have := rall1 W (ofL part) lName _ cls_name (by decide) 50 (by omega) hp1
      rw [ofL_list] at this
      exact this)
    have HAO := Lib.hid (fun W => show Calls Tryz.prog 56 #[.string (ofL part), .int .i64 1, .int .i64 50, .string ⟨lOpaque.toArray⟩] W fun e w' => e = .returned (.bool (allB opaqueB 50 part)) ∧ w' = W by
      have := rall1 W (ofL part) lOpaque _ cls_opaque (by decide) 50 (by omega) hp1
      rw [ofL_list] at this
      exact this)
    have HSV := Lib.hid (fun W => show Calls Tryz.prog 29 #[.string (ofL host)] W fun e w' => e = .returned (.bool (serverB host)) ∧ Below W.heap.size W w' by
      have := rserver_calls W (ofL host) hp2
      rw [ofL_list] at this
      exact this)
    have HC := Lib.hid hC
    obtain ⟨cn, hcn⟩ : ∃ cn, c.toNat = cn := ⟨_, rfl⟩
    have HKO := Lib.hid (show kindOf c = if cn = 33 then 1 else if cn = 64 then 2 else if cn = 35 then 3 else 0 by unfold kindOf; rw [hcn])
    have HFO := Lib.hid (show fitOf c = if cn = 33 then opaqueB else nameB by unfold fitOf; rw [hcn])
    have e0 : s[0].toNat = cn := by rw [hc0, hcn]
    have HNE := Lib.hid hne
    clear hcr hc0 hrs hrl hrsz hC hrd hz hpart hhost htwo hp1 hp2 hcn hemp h0 hs
    go_enter Tryz.func84, Tryz.ntmps84
    have hcase : cn = 33 ∨ cn = 64 ∨ cn = 35 ∨ (cn ≠ 33 ∧ cn ≠ 64 ∧ cn ≠ 35) := by omega
    rcases hcase with rfl | rfl | rfl | ⟨n1, n2, n3⟩
    case inr.inr.inr =>
      have HK := Lib.hid (show kindOf c = 0 by rw [HKO.out]; simp [n1, n2, n3])
      have e1 : ((s[0].toNat : Int) == 33) = false := by rw [e0]; exact beq_eq_false_iff_ne.2 (by omega)
      have e2 : ((s[0].toNat : Int) == 64) = false := by rw [e0]; exact beq_eq_false_iff_ne.2 (by omega)
      have e3 : ((s[0].toNat : Int) == 35) = false := by rw [e0]; exact beq_eq_false_iff_ne.2 (by omega)
      clear e0 n1 n2 n3
      go_wp2_with fail
      refine (HC.out w).mono ?_
      rintro e w1 ⟨rfl, hb⟩
      have HB := Lib.hid hb
      clear hb HC
      go_wp2_with fail
      refine bodyPost_ret (results_tmp3 rfl _ _ _) rfl ?_
      exact ⟨by rw [HSP.out, if_pos HK.out]; rfl, HB.out⟩
    · have HK := Lib.hid (show kindOf c = 1 by rw [HKO.out]; rfl)
      have HF := Lib.hid (show fitOf c = opaqueB by rw [HFO.out]; rfl)
      have HSP2 := Lib.hid (show splitB s.data.toList = if two && allB opaqueB 50 part && serverB host then some (1, part, host) else none by rw [HSP.out, HK.out, HF.out]; rfl)
      have e1 : s[0].toNat = 33 := e0
      clear e0 HK HF HKO HFO HSP
      go_wp2_with fail
      refine (HC.out w).mono ?_
      rintro e w1 ⟨rfl, hb⟩
      have HB := Lib.hid hb
      have HA := Lib.hid (HAO.out w1)
      have HS := Lib.hid (HSV.out w1)
      clear hb HC HAN HAO HSV
      generalize allB opaqueB 50 part = ab at *
      generalize serverB host = sb at *
      cases two
      · have HSP3 := Lib.hid HSP2.out
        go_wp2_with fail
        refine bodyPost_ret (results_tmp3 rfl _ _ _) rfl ?_
        exact ⟨by rw [HSP3.out]; rfl, HB.out⟩
      · cases ab
        · have HSP3 := Lib.hid HSP2.out
          go_wp2_with fail
          refine HA.out.mono ?_
          rintro e w4 ⟨rfl, rfl⟩
          go_wp2_with fail
          refine bodyPost_ret (results_tmp3 rfl _ _ _) rfl ?_
          exact ⟨by rw [HSP3.out]; rfl, HB.out⟩
        · cases sb <;>
          · have HSP3 := Lib.hid HSP2.out
            go_wp2_with fail
            refine HA.out.mono ?_
            rintro e w4 ⟨rfl, rfl⟩
            go_wp2_with fail
            refine HS.out.mono ?_
            rintro e w5 ⟨rfl, hb5⟩
            have HB5 := Lib.hid (HB.out.trans (hb5.mono HB.out.size))
            clear hb5
            go_wp2_with fail
            refine bodyPost_ret (results_tmp3 rfl _ _ _) rfl ?_
            exact ⟨by rw [HSP3.out]; rfl, HB5.out⟩
    · have HK := Lib.hid (show kindOf c = 2 by rw [HKO.out]; rfl)
      have HF := Lib.hid (show fitOf c = nameB by rw [HFO.out]; rfl)
      have HSP2 := Lib.hid (show splitB s.data.toList = if two && allB nameB 50 part && serverB host then some (2, part, host) else none by rw [HSP.out, HK.out, HF.out]; rfl)
      have e1 : s[0].toNat = 64 := e0
      clear e0 HK HF HKO HFO HSP
      go_wp2_with fail
      refine (HC.out w).mono ?_
      rintro e w1 ⟨rfl, hb⟩
      have HB := Lib.hid hb
      have HA := Lib.hid (HAN.out w1)
      have HS := Lib.hid (HSV.out w1)
      clear hb HC HAN HAO HSV
      generalize allB nameB 50 part = ab at *
      generalize serverB host = sb at *
      cases two
      · have HSP3 := Lib.hid HSP2.out
        go_wp2_with fail
        refine bodyPost_ret (results_tmp3 rfl _ _ _) rfl ?_
        exact ⟨by rw [HSP3.out]; rfl, HB.out⟩
      · cases ab
        · have HSP3 := Lib.hid HSP2.out
          go_wp2_with fail
          refine HA.out.mono ?_
          rintro e w4 ⟨rfl, rfl⟩
          go_wp2_with fail
          refine bodyPost_ret (results_tmp3 rfl _ _ _) rfl ?_
          exact ⟨by rw [HSP3.out]; rfl, HB.out⟩
        · cases sb <;>
          · have HSP3 := Lib.hid HSP2.out
            go_wp2_with fail
            refine HA.out.mono ?_
            rintro e w4 ⟨rfl, rfl⟩
            go_wp2_with fail
            refine HS.out.mono ?_
            rintro e w5 ⟨rfl, hb5⟩
            have HB5 := Lib.hid (HB.out.trans (hb5.mono HB.out.size))
            clear hb5
            go_wp2_with fail
            refine bodyPost_ret (results_tmp3 rfl _ _ _) rfl ?_
            exact ⟨by rw [HSP3.out]; rfl, HB5.out⟩
    · have HK := Lib.hid (show kindOf c = 3 by rw [HKO.out]; rfl)
      have HF := Lib.hid (show fitOf c = nameB by rw [HFO.out]; rfl)
      have HSP2 := Lib.hid (show splitB s.data.toList = if two && allB nameB 50 part && serverB host then some (3, part, host) else none by rw [HSP.out, HK.out, HF.out]; rfl)
      have e1 : s[0].toNat = 35 := e0
      clear e0 HK HF HKO HFO HSP
      go_wp2_with fail
      refine (HC.out w).mono ?_
      rintro e w1 ⟨rfl, hb⟩
      have HB := Lib.hid hb
      have HA := Lib.hid (HAN.out w1)
      have HS := Lib.hid (HSV.out w1)
      clear hb HC HAN HAO HSV
      generalize allB nameB 50 part = ab at *
      generalize serverB host = sb at *
      cases two
      · have HSP3 := Lib.hid HSP2.out
        go_wp2_with fail
        refine bodyPost_ret (results_tmp3 rfl _ _ _) rfl ?_
        exact ⟨by rw [HSP3.out]; rfl, HB.out⟩
      · cases ab
        · have HSP3 := Lib.hid HSP2.out
          go_wp2_with fail
          refine HA.out.mono ?_
          rintro e w4 ⟨rfl, rfl⟩
          go_wp2_with fail
          refine bodyPost_ret (results_tmp3 rfl _ _ _) rfl ?_
          exact ⟨by rw [HSP3.out]; rfl, HB.out⟩
        · cases sb <;>
          · have HSP3 := Lib.hid HSP2.out
            go_wp2_with fail
            refine HA.out.mono ?_
            rintro e w4 ⟨rfl, rfl⟩
            go_wp2_with fail
            refine HS.out.mono ?_
            rintro e w5 ⟨rfl, hb5⟩
            have HB5 := Lib.hid (HB.out.trans (hb5.mono HB.out.size))
            clear hb5
            go_wp2_with fail
            refine bodyPost_ret (results_tmp3 rfl _ _ _) rfl ?_
            exact ⟨by rw [HSP3.out]; rfl, HB5.out⟩
theorem colonB_length (s : List UInt8) : s.length = (colonB s).1.length + (if (colonB s).2.2 then 1 + (colonB s).2.1.length else 0) := by
  induction s with
  | nil => rfl
  | cons c r ih =>
    unfold colonB
    cases hc : (c == 58) with
    | true => simp; omega
    | false =>
      simp only [Bool.false_eq_true, if_false, List.length_cons]
      omega
theorem serverB_length {s : List UInt8} (h : serverB s = true) : s.length ≤ 56 := by
  unfold serverB at h
  rw [cut_colon] at h
  have hl := colonB_length s
  unfold allB at h
  simp only [Bool.and_eq_true, Bool.or_eq_true, Bool.not_eq_true', decide_eq_true_eq] at h
  obtain ⟨⟨_, _, h1⟩, h2⟩ := h
  split at hl
  · rename_i ht
    rcases h2 with h2 | ⟨_, _, h2⟩
    · rw [ht] at h2; cases h2
    · omega
  · omega
/-- A name is short. -/
theorem isB_length {k : Nat} {s : List UInt8} (h : isB k s = true) : s.length ≤ 120 := by
  unfold isB at h
  cases hs : splitB s with
  | none => rw [hs] at h; cases h
  | some x =>
    cases s with
    | nil => simp
    | cons c r =>
      have he : splitB (c :: r) = if kindOf c = 0 then none else if (Lib.cut r [58]).2.2 && allB (fitOf c) 50 (Lib.cut r [58]).1 && serverB (Lib.cut r [58]).2.1 then some (kindOf c, (Lib.cut r [58]).1, (Lib.cut r [58]).2.1) else none := rfl
      rw [he, cut_colon] at hs
      by_cases h0 : kindOf c = 0
      · rw [if_pos h0] at hs; cases hs
      · rw [if_neg h0] at hs
        by_cases h2 : ((colonB r).2.2 && allB (fitOf c) 50 (colonB r).1 && serverB (colonB r).2.1) = true
        · simp only [Bool.and_eq_true] at h2
          obtain ⟨⟨h3, h4⟩, h5⟩ := h2
          have hl := colonB_length r
          rw [if_pos h3] at hl
          have := serverB_length h5
          unfold allB at h4
          simp only [Bool.and_eq_true, decide_eq_true_eq] at h4
          simp only [List.length_cons]
          omega
        · rw [if_neg h2] at hs; cases hs
/-- Is: at rooms, users, aliases. -/
theorem ris_calls (w : World) (k : Nat) (s : ByteArray) (h1 : 1 ≤ k) (hk : k < 4) (hs : s.size ≤ 9223372036854775807) :
    Calls Tryz.prog 57 #[.int .i64 k, .string s] w fun e w' => e = .returned (.bool (isB k s.data.toList)) ∧ Below w.heap.size w w' := by
  have HS := Lib.hid (rsplit_calls w s hs)
  have HR := Lib.hid (show isB k s.data.toList = match splitB s.data.toList with | some (k', _, _) => k' == k | none => false from rfl)
  generalize splitB s.data.toList = x at *
  obtain rfl | rfl | rfl : k = 1 ∨ k = 2 ∨ k = 3 := by omega
  all_goals
    clear h1 hk hs
    go_enter Tryz.func57, Tryz.ntmps57
    go_wp2_with fail
    refine HS.out.mono ?_
    rintro e w1 ⟨rfl, hb⟩
    have HB := Lib.hid hb
    clear hb HS
    cases x with
    | none =>
      have HR2 := Lib.hid HR.out
      unfold rsplitV
      go_wp2_with fail
      go_ret
      exact ⟨by rw [HR2.out]; rfl, HB.out⟩
    | some x =>
      obtain ⟨k', p, h⟩ := x
      have HR2 := Lib.hid HR.out
      unfold rsplitV
      go_wp2_with fail
      go_ret
      refine ⟨?_, HB.out⟩
      rw [HR2.out]
      simp
      rw [Bool.eq_iff_iff]
      simp
      omega
end Go.Proofs.YtgnoaeldmpbjmaaGreatDoor
/- The document's table: new; an alias's place. -/
set_option linter.unusedVariables false
set_option linter.unusedSimpArgs false
namespace Go.Proofs.YtgnoaeldmpbjmaaGreatDoor
open Go.RowKit

/-- Whatever an error is: what Tell tells of it. -/
def pathOf : Er → List UInt8
  | none => []
  | some (p, _) => pathL p
theorem tell_calls (w : World) (Q : Nat → Prop) (v : Value) (x : Er) (h : ErrV w Q v x) (het : Et w) (hp : (pathOf x).length ≤ 1000000) :
    Calls Tryz.prog 17 #[v] w fun e w' => e = .returned (erV x) ∧ Below w.heap.size w w' := by
  cases x with
  | none =>
    have : v = .nilIface := h
    subst this
    exact tell_nil w
  | some x => exact tell_flt w Q v x.1 x.2 h het hp

abbrev tCells (server : ByteArray) (most : Int) (s : Sl) : Array Value := #[.string server, .int .i64 most, s.val]
theorem results_rows2 {P : Program} {fn : Func} {p u : Tmp} {ty ty2 : TypeId} (h : fn.results = #[.cell p ty, .cell u ty2]) (tmps : Array Value) (w : World) (g g2 : Nat) (t t2 : TypeId) (cs cs2 : Array Value) (fr fr2 : Nat × Nat) (d d2 : TypeDesc)
    (hp : tmps.getD p undef = .pointer (some ⟨g, 0, none⟩)) (hg : w.heap[g]? = some (.cells cs t fr))
    (hu : P.underlying ty = some d) (hd : (match d with | .struct _ | .array _ _ => true | _ => false) = true) (hi : (P.info? ty).map (·.size) = some cs.size)
    (hp2 : tmps.getD u undef = .pointer (some ⟨g2, 0, none⟩)) (hg2 : w.heap[g2]? = some (.cells cs2 t2 fr2))
    (hu2 : P.underlying ty2 = some d2) (hd2 : (match d2 with | .struct _ | .array _ _ => true | _ => false) = true) (hi2 : (P.info? ty2).map (·.size) = some cs2.size) :
    (results fn tmps).run P w = .ok (.tuple #[.agg cs, .agg cs2]) w := by
  have hp' : tmps[p]?.getD undef = .pointer (some ⟨g, 0, none⟩) := by simpa using hp
  have hp2' : tmps[u]?.getD undef = .pointer (some ⟨g2, 0, none⟩) := by simpa using hp2
  simp [results, h, hp', hp2', asAddr, run_loadVar_row w g t ty cs fr d hg hu hd hi, run_loadVar_row w g2 t2 ty2 cs2 fr2 d2 hg2 hu2 hd2 hi2]
theorem res_TE {fn : Func} {p u : Tmp} (h : fn.results = #[.cell p 34, .cell u 36]) (tmps : Array Value) (w : World) (g g2 : Nat) (cs cs2 : Array Value)
    (hp : tmps.getD p undef = .pointer (some ⟨g, 0, none⟩)) (hg : w.heap[g]? = some (.cells cs 34 (0, 0))) (hs : cs.size = 3)
    (hp2 : tmps.getD u undef = .pointer (some ⟨g2, 0, none⟩)) (hg2 : w.heap[g2]? = some (.cells cs2 36 (0, 0))) (hs2 : cs2.size = 3) :
    (results fn tmps).run Tryz.prog w = .ok (.tuple #[.agg cs, .agg cs2]) w :=
  results_rows2 h tmps w g g2 _ _ cs cs2 (0, 0) (0, 0) _ _ hp hg Tryz.underlying34 rfl (by rw [hs]; kernel_rfl) hp2 hg2 Tryz.underlying36 rfl (by rw [hs2]; kernel_rfl)

/-- At. -/
def idxE (l : List En) (k : ByteArray) : Int := match l.findIdx? (aliasIs k) with
  | some i => i
  | none => -1
theorem alias_beq (a k : ByteArray) : (a.toList == k.toList) = (a.data.toList == k.data.toList) := by rw [ByteArray.toList_eq, ByteArray.toList_eq]
theorem idx_hit {l : List En} {k : ByteArray} {i : Nat} {x : En} (hx : l[i]? = some x) (hk : aliasIs k x = true) (hno : ∀ y ∈ l.take i, aliasIs k y = false) : idxE l k = i := by
  unfold idxE
  have : l.findIdx? (aliasIs k) = some i := by
    have hi : i < l.length := (List.getElem?_eq_some_iff.1 hx).1
    rw [List.findIdx?_eq_some_iff_getElem]
    refine ⟨hi, by rw [(List.getElem?_eq_some_iff.1 hx).2]; exact hk, fun j hj => ?_⟩
    have hm : l[j] ∈ l.take i := by
      rw [List.mem_take_iff_getElem]
      exact ⟨j, by omega, rfl⟩
    rw [hno _ hm]; simp
  rw [this]
theorem idx_none {l : List En} {k : ByteArray} (hno : ∀ y ∈ l, aliasIs k y = false) : idxE l k = -1 := by
  unfold idxE
  have : l.findIdx? (aliasIs k) = none := List.findIdx?_eq_none_iff.2 (fun y hy => by rw [hno y hy])
  rw [this]
set_option maxRecDepth 100000 in
theorem rat_calls (w : World) (server : ByteArray) (most : Int) (s : Sl) (P : Nat → Prop) (l : List En) (k : ByteArray) (hr : RowOf w P 105 3 s (rowsE l)) (hn : l.length ≤ 1000000) :
    Calls Tryz.prog 19 #[.agg (tCells server most s), .string k] w fun e w' => e = .returned (.int .i64 (idxE l k)) ∧ Below w.heap.size w w' := by
  have HR := Lib.hid hr
  have hnl : s.n = l.length := by have := hr.1; simpa using this
  obtain ⟨A, n, c⟩ := s
  dsimp only at hnl
  subst hnl
  have hb0 : Below w.heap.size w (w.alloc (.cells (tCells server most ⟨A, l.length, c⟩) 34)) := (Below.refl _ _).alloc (Nat.le_refl _) _
  have HB0 := Lib.hid hb0
  clear hr hb0
  simp only [tCells, Sl.val]
  go_enter Tryz.func19, Tryz.ntmps19
  go_wp2_with fail
  go_loopw [9] (fun i wr => ∃ j : Nat, j ≤ l.length ∧ i = .int .i64 j ∧ wr = w.alloc (.cells #[.string server, .int .i64 most, .slice A l.length c] 34) ∧ ∀ y ∈ l.take j, aliasIs k y = false) (fun i _ => l.length - (intOf i).toNat)
  case atStart => exact ⟨0, by omega, rfl, rfl, by simp⟩
  case round =>
    obtain ⟨j, hj, rfl, rfl, hno⟩ := hrel
    have HNO := Lib.hid hno
    clear hno
    have t2 : (w.alloc (.cells #[.string server, .int .i64 most, .slice A l.length c] 34)).cell? ⟨w.heap.size, 2, none⟩ = some (.slice A l.length c) := cell_new _ _ _ _ _ _ rfl
    by_cases hlt : j < l.length
    · have hy : l[j]? = some l[j] := List.getElem?_eq_getElem hlt
      have hts : l.take (j + 1) = l.take j ++ [l[j]] := by rw [List.take_succ_eq_append_getElem hlt]
      generalize l[j] = y at hy hts
      obtain ⟨r, ha⟩ : ∃ r, A = some ⟨r, 0, none⟩ := by
        rcases HR.out.2.2 with ⟨_, hnil⟩ | ⟨r, h1, _⟩
        · have := congrArg List.length hnil; simp at this; subst this; simp at hlt
        · exact ⟨r, h1⟩
      obtain ⟨_, hrl, hrw⟩ := HR.out.at ha
      have hyc : (rowsE l)[j]? = some y.cells.toList := by simp [hy]
      have c0 : (w.alloc (.cells #[.string server, .int .i64 most, .slice A l.length c] 34)).cell? ⟨r, j * 3, none⟩ = some (.string y.a) := (cell_old _ _ _ hrw.lt).trans (hrw.cell (d := 0) hyc rfl)
      have HTS := Lib.hid hts
      have HY := Lib.hid hy
      subst ha
      clear hy hts hrw hyc
      cases hsame : (y.a.toList == k.toList) with
      | true =>
        have HF := Lib.hid (idx_hit HY.out (by unfold aliasIs; rw [← alias_beq]; exact hsame) HNO.out)
        go_wp2_with fail
        go_ret
        exact ⟨by rw [HF.out]; rfl, HB0.out⟩
      | false =>
        have HF := Lib.hid (show aliasIs k y = false by unfold aliasIs; rw [← alias_beq]; exact hsame)
        go_wp2_with fail
        exact ⟨⟨j + 1, by omega, by go_num, (by first | rfl | trivial), by
          rw [HTS.out]; intro z hz
          rcases List.mem_append.1 hz with h | h
          · exact HNO.out z h
          · simp at h; rw [h]; exact HF.out⟩, by simp [intOf]; omega⟩
    · obtain rfl : j = l.length := by omega
      have HF := Lib.hid (idx_none (l := l) (k := k) (by have := HNO.out; rw [List.take_length] at this; exact this))
      go_wp2_with fail
      go_ret
      exact ⟨by rw [HF.out]; rfl, HB0.out⟩
end Go.Proofs.YtgnoaeldmpbjmaaGreatDoor
/- append of rows that lie somewhere, none or many: at a list of operations, at a step of a region that draws. -/
set_option linter.unusedVariables false
namespace Go.Proofs.YtgnoaeldmpbjmaaGreatDoor
open Go.RowKit

/-- Rows that a slice shows. -/
def Src (w : World) (sz : Nat) (a : Option Addr) (m c : Nat) (l : List (List Value)) : Prop :=
  m = l.length ∧ (∀ x ∈ l, x.length = sz) ∧ (∀ u ∈ l.flatten, u.oneCell' = true) ∧ ((a = none ∧ m = 0 ∧ c = 0) ∨ ∃ ad, a = some ad ∧ ∀ j u, l.flatten[j]? = some u → w.cell? (ad.add j) = some u)
theorem flatten_len {sz : Nat} : ∀ {l : List (List Value)}, (∀ x ∈ l, x.length = sz) → l.flatten.length = l.length * sz
  | [], _ => by simp
  | x :: l, h => by
    rw [List.flatten_cons, List.length_append, flatten_len (fun y hy => h y (by simp [hy])), h x (by simp), List.length_cons, Nat.add_mul]
    omega
theorem flatten_at {sz : Nat} : ∀ {l : List (List Value)}, (∀ x ∈ l, x.length = sz) → ∀ (k d : Nat) (x : List Value), l[k]? = some x → d < sz → l.flatten[k * sz + d]? = x[d]?
  | [], _, k, d, x, h, _ => by simp at h
  | y :: l, hl, k, d, x, h, hd => by
    have hy := hl y (by simp)
    cases k with
    | zero =>
      simp at h
      subst h
      rw [List.flatten_cons, Nat.zero_mul, Nat.zero_add, List.getElem?_append_left (by omega)]
    | succ k =>
      simp at h
      rw [List.flatten_cons, List.getElem?_append_right (by rw [hy, Nat.add_mul]; omega)]
      have := flatten_at (fun z hz => hl z (by simp [hz])) k d x h hd
      rw [← this]
      congr 1
      rw [hy, Nat.add_mul]
      omega
theorem run_append_src {P : Program} (w : World) (t ty : TypeId) (base : Nat) (e : TypeId) (i : TypeInfo) (z : Value) (size bytes : Nat) (ht : P.underlying t = some (.slice e)) (hi : P.info? e = some i) (hz : i.zero = some z)
    (hsize : i.size = size) (hby : i.bytes = bytes) (hzs : z.cells.size = size) (hsz : 0 < size)
    (v : Value) (n : Nat) (xs : List Value) (hown : w.ownsRow base e size v n xs) (a : Option Addr) (m c : Nat) (l : List (List Value)) (hs : Src w size a m c l)
    (h63 : n + m ≤ maxLen) (hbytes : (n + m) * bytes ≤ 140737488355328) (hbase : base ≤ w.heap.size) :
    ∃ a' cap w', (Builtin.append_ #[t, t] ty #[v, .slice a m c]).run P w = .ok (.slice a' (n + m) cap) w' ∧ w'.ownsRow base e size (.slice a' (n + m) cap) (n + m) (xs ++ l.flatten) ∧ w.grownBy w' v.ownBlock ∧
      ((Value.slice a' (n + m) cap).ownBlock = v.ownBlock ∨ (Value.slice a' (n + m) cap).ownBlock = some w.heap.size) := by
  obtain ⟨h1, h2, h3, h4⟩ := hs
  rcases h4 with ⟨rfl, rfl, rfl⟩ | ⟨ad, rfl, h5⟩
  · have hl : l = [] := List.length_eq_zero_iff.1 h1.symm
    subst hl
    have hr := run_append_owned_none (P := P) w base t ty e i size ht hi v n xs hown
    rcases hown.2 with ⟨rfl, rfl⟩ | ⟨g, cap, cur, rfl, _⟩
    · exact ⟨none, 0, w, hr, by simpa using hown, grown_refl w _, .inl rfl⟩
    · exact ⟨some ⟨g, 0, none⟩, cap, w, hr, by simpa using hown, grown_refl w _, .inl rfl⟩
  · obtain ⟨v', w', hr, h6, h7, _, h9⟩ := run_append_own_at (P := P) w base t ty e i z size bytes ht hi hz hsize hby hzs hsz v n xs hown ad m c l.flatten (by rw [flatten_len h2, h1]) h5 h3 h63 hbytes hbase
    rcases h6.2 with ⟨rfl, hn0⟩ | ⟨g, cap, cur, rfl, _⟩
    · have : n + m = 0 := hn0
      exact ⟨none, 0, w', by rw [hr, this], by rw [this] at h6 ⊢; exact h6, h7, by rw [this]; exact h9⟩
    · exact ⟨_, _, w', hr, h6, h7, h9⟩
section
variable {P : Program} (w : World)
theorem wp_append_src {o : Oper} {a : Act} {K : Act → World → Prop} {Q : Exit → Act → World → Prop} (s x : Operand) (t : TypeId)
    (ho : o.op = .call { callee := .builtin .append, args := #[s, x], argTypes := #[t, t] })
    (base : Nat) (e : TypeId) (i : TypeInfo) (z : Value) (size bytes : Nat) (ht : P.underlying t = some (.slice e)) (hi : P.info? e = some i) (hz : i.zero = some z)
    (hsize : i.size = size) (hby : i.bytes = bytes) (hzs : z.cells.size = size) (hsz : 0 < size)
    (v : Value) (n : Nat) (xs : List Value) (hv : a.eval s = v) (hown : w.ownsRow base e size v n xs)
    (b : Option Addr) (m c : Nat) (l : List (List Value)) (hx : a.eval x = .slice b m c) (hs : Src w size b m c l)
    (h63 : n + m ≤ maxLen) (hbytes : (n + m) * bytes ≤ 140737488355328) (hbase : base ≤ w.heap.size)
    (h : ∀ a' cap w', w'.ownsRow base e size (.slice a' (n + m) cap) (n + m) (xs ++ l.flatten) → w.grownBy w' v.ownBlock → ((Value.slice a' (n + m) cap).ownBlock = v.ownBlock ∨ (Value.slice a' (n + m) cap).ownBlock = some w.heap.size) → K (a.put o.dst (.slice a' (n + m) cap)) w') : o.wp P a w K Q := by
  obtain ⟨a', cap, w', hr, h2, h3, h4⟩ := run_append_src (P := P) w t o.type base e i z size bytes ht hi hz hsize hby hzs hsz v n xs hown b m c l hs h63 hbytes hbase
  unfold Oper.wp execOp
  simp only [ho, resolve, invoke, builtin, Sem.run_bind, Sem.run_pure, Result.andThen_ok, List.map_toArray, List.map_cons, List.map_nil, hv, hx, hr]
  exact h a' cap w' h2 h3 h4
theorem wpList_append_src {ops : Array Oper} {rest : List Oper} {o : Oper} {a : Act} {Q : Exit → Act → World → Prop} (hgd : o.guard = none) (s x : Operand) (t : TypeId)
    (ho : o.op = .call { callee := .builtin .append, args := #[s, x], argTypes := #[t, t] })
    (base : Nat) (e : TypeId) (i : TypeInfo) (z : Value) (size bytes : Nat) (ht : P.underlying t = some (.slice e)) (hi : P.info? e = some i) (hz : i.zero = some z)
    (hsize : i.size = size) (hby : i.bytes = bytes) (hzs : z.cells.size = size) (hsz : 0 < size)
    (v : Value) (n : Nat) (xs : List Value) (hv : a.eval s = v) (hown : w.ownsRow base e size v n xs)
    (b : Option Addr) (m c : Nat) (l : List (List Value)) (hx : a.eval x = .slice b m c) (hs : Src w size b m c l)
    (h63 : n + m ≤ maxLen) (hbytes : (n + m) * bytes ≤ 140737488355328) (hbase : base ≤ w.heap.size)
    (h : ∀ a' cap w', w'.ownsRow base e size (.slice a' (n + m) cap) (n + m) (xs ++ l.flatten) → w.grownBy w' v.ownBlock → ((Value.slice a' (n + m) cap).ownBlock = v.ownBlock ∨ (Value.slice a' (n + m) cap).ownBlock = some w.heap.size) → wpList P ops Q rest (a.put o.dst (.slice a' (n + m) cap)) w') : wpList P ops Q (o :: rest) a w :=
  wpList_plain hgd fun _ hK => wp_append_src w s x t ho base e i z size bytes ht hi hz hsize hby hzs hsz v n xs hv hown b m c l hx hs h63 hbytes hbase fun a' cap w' h2 h3 h4 => hK _ _ (h a' cap w' h2 h3 h4)
theorem step_append_src {ops : Array Oper} {o : Oper} {a : Act} {K : Act → World → Prop} {Q : Exit → Act → World → Prop} {E : Prop} (hgd : o.guard = none) (s x : Operand) (t : TypeId)
    (ho : o.op = .call { callee := .builtin .append, args := #[s, x], argTypes := #[t, t] })
    (base : Nat) (e : TypeId) (i : TypeInfo) (z : Value) (size bytes : Nat) (ht : P.underlying t = some (.slice e)) (hi : P.info? e = some i) (hz : i.zero = some z)
    (hsize : i.size = size) (hby : i.bytes = bytes) (hzs : z.cells.size = size) (hsz : 0 < size)
    (v : Value) (n : Nat) (xs : List Value) (hv : a.eval s = v) (hown : w.ownsRow base e size v n xs)
    (b : Option Addr) (m c : Nat) (l : List (List Value)) (hx : a.eval x = .slice b m c) (hs : Src w size b m c l)
    (h63 : n + m ≤ maxLen) (hbytes : (n + m) * bytes ≤ 140737488355328) (hbase : base ≤ w.heap.size)
    (h : ∀ a' cap w', w'.ownsRow base e size (.slice a' (n + m) cap) (n + m) (xs ++ l.flatten) → w.grownBy w' v.ownBlock → ((Value.slice a' (n + m) cap).ownBlock = v.ownBlock ∨ (Value.slice a' (n + m) cap).ownBlock = some w.heap.size) → K (a.put o.dst (.slice a' (n + m) cap)) w') :
    if Region.wanted o (yielded ops a.tmps) = true then Oper.wp P o a w K Q else E := by
  have hw : Region.wanted o (yielded ops a.tmps) = true := by simp [Region.wanted, hgd]
  rw [if_pos hw]
  exact wp_append_src w s x t ho base e i z size bytes ht hi hz hsize hby hzs hsz v n xs hv hown b m c l hx hs h63 hbytes hbase h
end
/-- A row's part. -/
theorem Rw.src {w : World} {E r cap sz : Nat} {l : List (List Value)} (h : Rw w E r cap sz l) (h1 : ∀ x ∈ l, ∀ u ∈ x, u.oneCell' = true) (hsz : 0 < sz) (i m c : Nat) (hi : i + m ≤ l.length) :
    Src w sz (some ⟨r, i * sz, none⟩) m c ((l.drop i).take m) := by
  have hlen : ∀ x ∈ l, x.length = sz := fun x hx => by
    obtain ⟨k, hk⟩ := List.mem_iff_getElem?.1 hx
    obtain ⟨cur, _, _, _, h4⟩ := h
    exact (h4 k x hk).1
  have hlen2 : ∀ x ∈ (l.drop i).take m, x.length = sz := fun x hx => hlen x (List.mem_of_mem_drop (List.mem_of_mem_take hx))
  refine ⟨by rw [List.length_take, List.length_drop]; omega, hlen2, fun u hu => ?_, .inr ⟨_, rfl, fun j u hj => ?_⟩⟩
  · obtain ⟨x, hx, hxu⟩ := List.mem_flatten.1 hu
    exact h1 x (List.mem_of_mem_drop (List.mem_of_mem_take hx)) u hxu
  · have hjl : j < ((l.drop i).take m).flatten.length := (List.getElem?_eq_some_iff.1 hj).1
    rw [flatten_len hlen2, List.length_take, List.length_drop] at hjl
    have hq : j / sz < m := by
      have : j < m * sz := by
        have : min m (l.length - i) = m := by omega
        rw [this] at hjl; exact hjl
      exact Nat.div_lt_of_lt_mul (by rw [Nat.mul_comm]; exact this)
    have hd : j % sz < sz := Nat.mod_lt _ hsz
    have hrow : ((l.drop i).take m)[j / sz]? = l[i + j / sz]? := by
      rw [List.getElem?_take, if_pos hq, List.getElem?_drop]
    obtain ⟨x, hx⟩ : ∃ x, l[i + j / sz]? = some x := ⟨_, List.getElem?_eq_getElem (by omega)⟩
    have hxl := hlen x (List.mem_of_getElem? hx)
    have hjx : ((l.drop i).take m).flatten[j]? = x[j % sz]? := by
      have := flatten_at hlen2 (j / sz) (j % sz) x (hrow.trans hx) hd
      rw [← this]
      congr 1
      rw [Nat.mul_comm]
      exact (Nat.div_add_mod j sz).symm
    rw [hjx] at hj
    have := h.cell (i := i + j / sz) (d := j % sz) hx hj
    have hadd : (⟨r, i * sz, none⟩ : Addr).add j = ⟨r, i * sz + j, none⟩ := by unfold Addr.add; split <;> simp_all
    rw [hadd]
    have he : (i + j / sz) * sz + j % sz = i * sz + j := by
      rw [Nat.add_mul, Nat.add_assoc]
      congr 1
      rw [Nat.mul_comm]
      exact Nat.div_add_mod j sz
    rw [he] at this
    exact this
end Go.Proofs.YtgnoaeldmpbjmaaGreatDoor
/- The document's table: an alias is taken. -/
set_option linter.unusedVariables false
set_option linter.unusedSimpArgs false
namespace Go.Proofs.YtgnoaeldmpbjmaaGreatDoor
open Go.RowKit

theorem infoN : (Tryz.prog.info? 105).map (fun i => (i.zero, i.size, i.bytes)) = some (some (.agg enZ.cells), 3, 48) := by kernel_rfl
theorem oneE (l : List En) : ∀ x ∈ rowsE l, ∀ u ∈ x, u.oneCell' = true := by
  intro x hx u hu
  obtain ⟨y, _, rfl⟩ := List.mem_map.1 hx
  simp at hu
  rcases hu with rfl | rfl | rfl <;> rfl
theorem flat_two (l : List En) (i j : Nat) : (rowsE (l.take i ++ l.drop j)).flatten = ((rowsE l).take i).flatten ++ ((rowsE l).drop j).flatten := by
  simp only [rowsE, List.map_append, List.flatten_append, List.map_take, List.map_drop]
abbrev TZ : Array Value := #[.string ⟨#[]⟩, .int .i64 0, .slice none 0 0]
/-- What a call of the document's table has laid: its table's box, its two results. -/
structure Laid3 (w : World) (server : ByteArray) (most : Int) (a : Option Addr) (n c : Nat) (wv : World) : Prop where
  t : wv.heap[w.heap.size]? = some (.cells #[.string server, .int .i64 most, .slice a n c] 34 (0, 0))
  r : wv.heap[w.heap.size + 1]? = some (.cells TZ 34 (0, 0))
  e : wv.heap[w.heap.size + 1 + 1]? = some (.cells EZ 36 (0, 0))
  b : Below w.heap.size w wv
theorem Laid3.next {w wv wx : World} {server : ByteArray} {most : Int} {a : Option Addr} {n c : Nat} (h : Laid3 w server most a n c wv) (hb : Below wv.heap.size wv wx) : Laid3 w server most a n c wx :=
  ⟨(hb.block _ (blk_lt h.t)).trans h.t, (hb.block _ (blk_lt h.r)).trans h.r, (hb.block _ (blk_lt h.e)).trans h.e, h.b.trans (hb.mono h.b.size)⟩
theorem laid3_made (w : World) (server : ByteArray) (most : Int) (a : Option Addr) (n c : Nat) : Laid3 w server most a n c (((w.alloc (.cells #[.string server, .int .i64 most, .slice a n c] 34)).alloc (.cells TZ 34)).alloc (.cells EZ 36)) :=
  ⟨(heap_old_at _ _ _ (by simp; omega)).trans ((heap_old_at _ _ _ (by simp)).trans (heap_new_at _ _ _ rfl)), (heap_old_at _ _ _ (by simp)).trans (heap_new_at _ _ _ (by simp)), heap_new_at _ _ _ (by simp), (((Below.refl _ _).alloc (Nat.le_refl _) _).alloc (by simp) _).alloc (by simp <;> omega) _⟩
theorem Laid3.drew {w wv : World} {server : ByteArray} {most : Int} {a : Option Addr} {n c : Nat} (h : Laid3 w server most a n c wv) : Laid3 w server most a n c wv.drew := ⟨h.t, h.r, h.e, h.b.drew⟩
theorem Laid3.grown {w wv wx : World} {server : ByteArray} {most : Int} {a : Option Addr} {n c : Nat} {row : Option Nat} (h : Laid3 w server most a n c wv) (hg : wv.grownBy wx row) (hr : ∀ j, row = some j → w.heap.size + 1 + 1 < j) : Laid3 w server most a n c wx :=
  ⟨(hg.block _ (blk_lt h.t) (fun e => by have := hr _ e.symm; omega)).trans h.t, (hg.block _ (blk_lt h.r) (fun e => by have := hr _ e.symm; omega)).trans h.r, (hg.block _ (blk_lt h.e) (fun e => by have := hr _ e.symm; omega)).trans h.e,
   h.b.grown hg h.b.size (fun j hj => by have := hr j hj; omega)⟩
theorem Laid3.put {w wv : World} {server : ByteArray} {most : Int} {a : Option Addr} {n c : Nat} (h : Laid3 w server most a n c wv) (a' : Option Addr) (n' c' : Nat) : Laid3 w server most a' n' c' (wv.setCell ⟨w.heap.size, 2, none⟩ (.slice a' n' c')) :=
  ⟨by rw [setCell_heap_at h.t]; rfl, (Below.heap_setCell _ _ _ _ (by show w.heap.size + 1 ≠ w.heap.size; omega)).trans h.r, (Below.heap_setCell _ _ _ _ (by show w.heap.size + 1 + 1 ≠ w.heap.size; omega)).trans h.e,
   h.b.trans (Fr.to_below (S := fun i => i = w.heap.size) (Fr.setCell wv ⟨w.heap.size, 2, none⟩ _ rfl) h.b.size (fun k hk e => by omega))⟩
theorem Laid3.alloc3 {w wv : World} {server : ByteArray} {most : Int} {a : Option Addr} {n c : Nat} (h : Laid3 w server most a n c wv) (o : Obj) : Laid3 w server most a n c (wv.alloc o) := h.next ((Below.refl _ _).alloc (Nat.le_refl _) _)
theorem src_rest {w : World} {r c : Nat} {l : List En} (h : Rw w 105 r c 3 (rowsE l)) (i : Nat) (hi : i ≤ l.length) : Src w 3 (if c = i then some ⟨r, 0, none⟩ else some ⟨r, i * 3, none⟩) (l.length - i) (c - i) ((rowsE l).drop i) := by
  by_cases hc : c = i
  · rw [if_pos hc]
    have hle : l.length ≤ c := by
      obtain ⟨cur, _, _, h3, _⟩ := h
      simpa using h3
    have : (rowsE l).drop i = [] := by rw [List.drop_eq_nil_iff]; simp; omega
    rw [this]
    exact ⟨by simp; omega, by simp, by simp, .inr ⟨_, rfl, by simp⟩⟩
  · rw [if_neg hc]
    have := h.src (oneE l) (by omega) i (l.length - i) (c - i) (by simp; omega)
    rwa [List.take_of_length_le (by simp)] at this
abbrev row3 (w : World) (g : Nat) (a b c : Value) : World := ((w.setCell ⟨g, 0, none⟩ a).setCell ⟨g, 1, none⟩ b).setCell ⟨g, 2, none⟩ c
theorem row3_other {w : World} {g h : Nat} {a b c : Value} (hne : h ≠ g) : (row3 w g a b c).heap[h]? = w.heap[h]? :=
  (Below.heap_setCell _ _ _ _ hne).trans ((Below.heap_setCell _ _ _ _ hne).trans (Below.heap_setCell _ _ _ _ hne))
theorem Laid3.fin {w wv : World} {server : ByteArray} {most : Int} {a : Option Addr} {n c : Nat} (h : Laid3 w server most a n c wv) (x y z x2 y2 z2 : Value) :
    (row3 (row3 wv (w.heap.size + 1) x y z) (w.heap.size + 1 + 1) x2 y2 z2).heap[w.heap.size + 1]? = some (.cells #[x, y, z] 34 (0, 0)) ∧
    (row3 (row3 wv (w.heap.size + 1) x y z) (w.heap.size + 1 + 1) x2 y2 z2).heap[w.heap.size + 1 + 1]? = some (.cells #[x2, y2, z2] 36 (0, 0)) ∧
    Below w.heap.size w (row3 (row3 wv (w.heap.size + 1) x y z) (w.heap.size + 1 + 1) x2 y2 z2) :=
  ⟨(row3_other (by omega)).trans (row3_heap h.r rfl), row3_heap ((row3_other (by omega)).trans h.e) rfl, row3_below (row3_below h.b (Nat.le_refl _) (by omega)) (Nat.le_refl _) (by omega)⟩
theorem Laid3.fin' {w wv : World} {server : ByteArray} {most : Int} {a : Option Addr} {n c : Nat} (h : Laid3 w server most a n c wv) (x y z x2 y2 z2 : Value) :
    (row3 (row3 wv (w.heap.size + 1 + 1) x2 y2 z2) (w.heap.size + 1) x y z).heap[w.heap.size + 1]? = some (.cells #[x, y, z] 34 (0, 0)) ∧
    (row3 (row3 wv (w.heap.size + 1 + 1) x2 y2 z2) (w.heap.size + 1) x y z).heap[w.heap.size + 1 + 1]? = some (.cells #[x2, y2, z2] 36 (0, 0)) ∧
    Below w.heap.size w (row3 (row3 wv (w.heap.size + 1 + 1) x2 y2 z2) (w.heap.size + 1) x y z) :=
  ⟨row3_heap ((row3_other (by omega)).trans h.r) rfl, (row3_other (by omega)).trans (row3_heap h.e rfl), row3_below (row3_below h.b (Nat.le_refl _) (by omega)) (Nat.le_refl _) (by omega)⟩

set_option maxRecDepth 100000 in
set_option maxHeartbeats 4000000 in
theorem rdrop_none (w : World) (server : ByteArray) (most : Int) (s : Sl) (P : Nat → Prop) (l : List En) (k by_ : ByteArray) (may : Bool) (hr : RowOf w P 105 3 s (rowsE l)) (hn : l.length ≤ 1000000) (hk : idxE l k = -1) :
    Calls Tryz.prog 32 #[.agg (tCells server most s), .string k, .string by_, .bool may] w fun e w' => e = .returned (.tuple #[.agg (tCells server most s), erV (some ([], 16))]) ∧ Below w.heap.size w w' := by
  have HA := Lib.hid (fun W h => rat_calls W server most s P l k (hr.same (Below.size (B := w.heap.size) h) (fun g hg _ => Below.block h g hg)) hn)
  have hnl : s.n = l.length := by have := hr.1; simpa using this
  obtain ⟨A, n, c⟩ := s
  dsimp only at hnl
  subst hnl
  have HL := Lib.hid (laid3_made w server most A l.length c)
  rw [hk] at HA
  clear hr hn hk
  simp only [tCells, Sl.val] at *
  go_enter Tryz.func32, Tryz.ntmps32
  go_wp2_with fail
  refine (HA.out _ HL.out.b).mono ?_
  rintro e w1 ⟨rfl, hb⟩
  have hl1 : Laid3 w server most A l.length c w1 := HL.out.next hb
  have t0 := cell_at (j := 0) hl1.t rfl
  have t1 := cell_at (j := 1) hl1.t rfl
  have t2 := cell_at (j := 2) hl1.t rfl
  have r0 := cell_at (j := 0) hl1.r rfl
  have r1 := cell_at (j := 1) hl1.r rfl
  have r2 := cell_at (j := 2) hl1.r rfl
  have e0 := cell_at (j := 0) hl1.e rfl
  have e1 := cell_at (j := 1) hl1.e rfl
  have e2 := cell_at (j := 2) hl1.e rfl
  have rz : ∀ j, w1.frozen? ⟨w.heap.size + 1, j, none⟩ = false := fun j => frozen_at hl1.r
  have ez : ∀ j, w1.frozen? ⟨w.heap.size + 1 + 1, j, none⟩ = false := fun j => frozen_at hl1.e
  have tz : ∀ j, w1.frozen? ⟨w.heap.size, j, none⟩ = false := fun j => frozen_at hl1.t
  have HL1 := Lib.hid hl1
  clear hb hl1 HL HA
  go_wp2_with fail
  go_region_law (go_simp; go_at_call 20; refine (rerr_calls _ 16).mono ?_; rintro e wv ⟨rfl, hb⟩
                 have hl : Laid3 w server most A l.length c wv := by first | exact HL1.out.drew.next hb | exact HL1.out.next hb
                 have t0 := cell_at (j := 0) hl.t rfl
                 have t1 := cell_at (j := 1) hl.t rfl
                 have t2 := cell_at (j := 2) hl.t rfl
                 have r0 := cell_at (j := 0) hl.r rfl
                 have r1 := cell_at (j := 1) hl.r rfl
                 have r2 := cell_at (j := 2) hl.r rfl
                 have e0 := cell_at (j := 0) hl.e rfl
                 have e1 := cell_at (j := 1) hl.e rfl
                 have e2 := cell_at (j := 2) hl.e rfl
                 have rz : ∀ j, wv.frozen? ⟨w.heap.size + 1, j, none⟩ = false := fun j => frozen_at hl.r
                 have ez : ∀ j, wv.frozen? ⟨w.heap.size + 1 + 1, j, none⟩ = false := fun j => frozen_at hl.e
                 have tz : ∀ j, wv.frozen? ⟨w.heap.size, j, none⟩ = false := fun j => frozen_at hl.t
                 have HLV := Lib.hid hl
                 clear hl hb
                 simp only [erV, eCells])
  all_goals (go_wp2_with fail)
  all_goals first
    | (refine bodyPost_ret (res_TE rfl _ _ (w.heap.size + 1) (w.heap.size + 1 + 1) #[.string server, .int .i64 most, .slice A l.length c] #[.int .i64 16, .int .i64 (-1), .string (ofL (pathL []))] rfl (HLV.out.fin _ _ _ _ _ _).1 rfl rfl (HLV.out.fin _ _ _ _ _ _).2.1 rfl) rfl ?_
       exact ⟨rfl, (HLV.out.fin _ _ _ _ _ _).2.2⟩)
    | (refine bodyPost_ret (res_TE rfl _ _ (w.heap.size + 1) (w.heap.size + 1 + 1) #[.string server, .int .i64 most, .slice A l.length c] #[.int .i64 16, .int .i64 (-1), .string (ofL (pathL []))] rfl (HLV.out.fin' _ _ _ _ _ _).1 rfl rfl (HLV.out.fin' _ _ _ _ _ _).2.1 rfl) rfl ?_
       exact ⟨rfl, (HLV.out.fin' _ _ _ _ _ _).2.2⟩)


set_option maxRecDepth 100000 in
set_option maxHeartbeats 4000000 in
theorem rdrop_denied (w : World) (server : ByteArray) (most : Int) (s : Sl) (P : Nat → Prop) (l : List En) (k by_ : ByteArray) (i : Nat) (x : En) (hr : RowOf w P 105 3 s (rowsE l)) (hn : l.length ≤ 1000000) (hk : idxE l k = i) (hx : l[i]? = some x) (hb : (x.b.toList == by_.toList) = false) :
    Calls Tryz.prog 32 #[.agg (tCells server most s), .string k, .string by_, .bool false] w fun e w' => e = .returned (.tuple #[.agg (tCells server most s), erV (some ([], 22))]) ∧ Below w.heap.size w w' := by
  have HA := Lib.hid (fun W h => rat_calls W server most s P l k (hr.same (Below.size (B := w.heap.size) h) (fun g hg _ => Below.block h g hg)) hn)
  have HR := Lib.hid hr
  have HN := Lib.hid hn
  have hnl : s.n = l.length := by have := hr.1; simpa using this
  obtain ⟨A, n, c⟩ := s
  dsimp only at hnl
  subst hnl
  have hil : i < l.length := (List.getElem?_eq_some_iff.1 hx).1
  obtain ⟨r, ha⟩ : ∃ r, A = some ⟨r, 0, none⟩ := by
    rcases hr.2.2 with ⟨_, hnil⟩ | ⟨r, h1, _⟩
    · have := congrArg List.length hnil; simp at this; subst this; simp at hil
    · exact ⟨r, h1⟩
  subst ha
  obtain ⟨_, hrl, hrw⟩ := hr.at rfl
  have hcap : l.length ≤ c := by
    obtain ⟨cur, _, _, h3, _⟩ := hrw
    simpa using h3
  have HRW := Lib.hid hrw
  have HL := Lib.hid (laid3_made w server most (some ⟨r, 0, none⟩) l.length c)
  have HX := Lib.hid hx
  obtain ⟨i0, hi0, hz0, hz1, hz2⟩ := info_parts infoN
  have HI := Lib.hid hi0
  have HZ0 := Lib.hid hz0
  have HZ1 := Lib.hid hz1
  have HZ2 := Lib.hid hz2
  clear hi0 hz0 hz1 hz2
  rw [hk] at HA
  clear hr hn hk hrw
  simp only [tCells, Sl.val] at *
  go_enter Tryz.func32, Tryz.ntmps32
  go_wp2_with fail
  refine (HA.out _ HL.out.b).mono ?_
  rintro e w1 ⟨rfl, hb⟩
  have hl1 : Laid3 w server most (some ⟨r, 0, none⟩) l.length c w1 := HL.out.next hb
  have t0 := cell_at (j := 0) hl1.t rfl
  have t1 := cell_at (j := 1) hl1.t rfl
  have t2 := cell_at (j := 2) hl1.t rfl
  have r0 := cell_at (j := 0) hl1.r rfl
  have r1 := cell_at (j := 1) hl1.r rfl
  have r2 := cell_at (j := 2) hl1.r rfl
  have e0 := cell_at (j := 0) hl1.e rfl
  have e1 := cell_at (j := 1) hl1.e rfl
  have e2 := cell_at (j := 2) hl1.e rfl
  have rz : ∀ j, w1.frozen? ⟨w.heap.size + 1, j, none⟩ = false := fun j => frozen_at hl1.r
  have ez : ∀ j, w1.frozen? ⟨w.heap.size + 1 + 1, j, none⟩ = false := fun j => frozen_at hl1.e
  have tz : ∀ j, w1.frozen? ⟨w.heap.size, j, none⟩ = false := fun j => frozen_at hl1.t
  have c2 : w1.cell? ⟨r, i * 3 + 2, none⟩ = some (.string x.b) := (hl1.b.cell (p := ⟨r, i * 3 + 2, none⟩) hrl).trans (HRW.out.cell (c := x.cells.toList) (d := 2) (by simp [HX.out]) rfl)
  have HL1 := Lib.hid hl1
  clear hb hl1 HL HA hx
  go_wp2_with fail
  go_region_law (go_simp; go_at_call 20; refine (rerr_calls _ 22).mono ?_; rintro e wv ⟨rfl, hb⟩
                 have hl : Laid3 w server most (some ⟨r, 0, none⟩) l.length c wv := by first | exact HL1.out.drew.next hb | exact HL1.out.next hb
                 have t0 := cell_at (j := 0) hl.t rfl
                 have t1 := cell_at (j := 1) hl.t rfl
                 have t2 := cell_at (j := 2) hl.t rfl
                 have r0 := cell_at (j := 0) hl.r rfl
                 have r1 := cell_at (j := 1) hl.r rfl
                 have r2 := cell_at (j := 2) hl.r rfl
                 have e0 := cell_at (j := 0) hl.e rfl
                 have e1 := cell_at (j := 1) hl.e rfl
                 have e2 := cell_at (j := 2) hl.e rfl
                 have rz : ∀ j, wv.frozen? ⟨w.heap.size + 1, j, none⟩ = false := fun j => frozen_at hl.r
                 have ez : ∀ j, wv.frozen? ⟨w.heap.size + 1 + 1, j, none⟩ = false := fun j => frozen_at hl.e
                 have tz : ∀ j, wv.frozen? ⟨w.heap.size, j, none⟩ = false := fun j => frozen_at hl.t
                 have HLV := Lib.hid hl
                 clear hl hb
                 simp only [erV, eCells])
  all_goals (go_wp2_with fail)
  all_goals first
    | (refine bodyPost_ret (res_TE rfl _ _ (w.heap.size + 1) (w.heap.size + 1 + 1) #[.string server, .int .i64 most, .slice (some ⟨r, 0, none⟩) l.length c] #[.int .i64 22, .int .i64 (-1), .string (ofL (pathL []))] rfl (HLV.out.fin _ _ _ _ _ _).1 rfl rfl (HLV.out.fin _ _ _ _ _ _).2.1 rfl) rfl ?_
       exact ⟨rfl, (HLV.out.fin _ _ _ _ _ _).2.2⟩)
    | (refine bodyPost_ret (res_TE rfl _ _ (w.heap.size + 1) (w.heap.size + 1 + 1) #[.string server, .int .i64 most, .slice (some ⟨r, 0, none⟩) l.length c] #[.int .i64 22, .int .i64 (-1), .string (ofL (pathL []))] rfl (HLV.out.fin' _ _ _ _ _ _).1 rfl rfl (HLV.out.fin' _ _ _ _ _ _).2.1 rfl) rfl ?_
       exact ⟨rfl, (HLV.out.fin' _ _ _ _ _ _).2.2⟩)
set_option maxRecDepth 100000 in
set_option maxHeartbeats 4000000 in
theorem rdrop_ok (w : World) (server : ByteArray) (most : Int) (s : Sl) (P : Nat → Prop) (l : List En) (k by_ : ByteArray) (i : Nat) (x : En) (hr : RowOf w P 105 3 s (rowsE l)) (hn : l.length ≤ 1000000) (hk : idxE l k = i) (hx : l[i]? = some x) (hb : (x.b.toList == by_.toList) = true) (may : Bool) :
    Calls Tryz.prog 32 #[.agg (tCells server most s), .string k, .string by_, .bool may] w fun e w' => ∃ s' : Sl, e = .returned (.tuple #[.agg (tCells server most s'), erV none]) ∧ RowOf w' (fun g => w.heap.size ≤ g) 105 3 s' (rowsE (l.take i ++ l.drop (i + 1))) ∧ Below w.heap.size w w' := by
  have HA := Lib.hid (fun W h => rat_calls W server most s P l k (hr.same (Below.size (B := w.heap.size) h) (fun g hg _ => Below.block h g hg)) hn)
  have HR := Lib.hid hr
  have HN := Lib.hid hn
  have hnl : s.n = l.length := by have := hr.1; simpa using this
  obtain ⟨A, n, c⟩ := s
  dsimp only at hnl
  subst hnl
  have hil : i < l.length := (List.getElem?_eq_some_iff.1 hx).1
  obtain ⟨r, ha⟩ : ∃ r, A = some ⟨r, 0, none⟩ := by
    rcases hr.2.2 with ⟨_, hnil⟩ | ⟨r, h1, _⟩
    · have := congrArg List.length hnil; simp at this; subst this; simp at hil
    · exact ⟨r, h1⟩
  subst ha
  obtain ⟨_, hrl, hrw⟩ := hr.at rfl
  have hcap : l.length ≤ c := by
    obtain ⟨cur, _, _, h3, _⟩ := hrw
    simpa using h3
  have HRW := Lib.hid hrw
  have HL := Lib.hid (laid3_made w server most (some ⟨r, 0, none⟩) l.length c)
  have HX := Lib.hid hx
  obtain ⟨i0, hi0, hz0, hz1, hz2⟩ := info_parts infoN
  have HI := Lib.hid hi0
  have HZ0 := Lib.hid hz0
  have HZ1 := Lib.hid hz1
  have HZ2 := Lib.hid hz2
  clear hi0 hz0 hz1 hz2
  rw [hk] at HA
  clear hr hn hk hrw
  simp only [tCells, Sl.val] at *
  go_enter Tryz.func32, Tryz.ntmps32
  go_wp2_with fail
  refine (HA.out _ HL.out.b).mono ?_
  rintro e w1 ⟨rfl, hb⟩
  have hl1 : Laid3 w server most (some ⟨r, 0, none⟩) l.length c w1 := HL.out.next hb
  have t0 := cell_at (j := 0) hl1.t rfl
  have t1 := cell_at (j := 1) hl1.t rfl
  have t2 := cell_at (j := 2) hl1.t rfl
  have r0 := cell_at (j := 0) hl1.r rfl
  have r1 := cell_at (j := 1) hl1.r rfl
  have r2 := cell_at (j := 2) hl1.r rfl
  have e0 := cell_at (j := 0) hl1.e rfl
  have e1 := cell_at (j := 1) hl1.e rfl
  have e2 := cell_at (j := 2) hl1.e rfl
  have rz : ∀ j, w1.frozen? ⟨w.heap.size + 1, j, none⟩ = false := fun j => frozen_at hl1.r
  have ez : ∀ j, w1.frozen? ⟨w.heap.size + 1 + 1, j, none⟩ = false := fun j => frozen_at hl1.e
  have tz : ∀ j, w1.frozen? ⟨w.heap.size, j, none⟩ = false := fun j => frozen_at hl1.t
  have c2 : w1.cell? ⟨r, i * 3 + 2, none⟩ = some (.string x.b) := (hl1.b.cell (p := ⟨r, i * 3 + 2, none⟩) hrl).trans (HRW.out.cell (c := x.cells.toList) (d := 2) (by simp [HX.out]) rfl)
  have HL1 := Lib.hid hl1
  clear hb hl1 HL HA hx
  go_wp2_with fail
  have b0 : (0 : Int) ≤ (i : Int) := by omega
  have b1 : (i : Int) ≤ (c : Int) := by omega
  have b2 : (0 : Int) ≤ (i : Int) + 1 := by omega
  have b3 : (i : Int) + 1 ≤ (l.length : Int) := by omega
  have b4 : (l.length : Int) ≤ (c : Int) := by omega
  have hnn := HN.out
  have bw : IntKind.i64.wrap ((i : Int) + 1) = (i : Int) + 1 := by rw [IntKind.wrap_i64]; omega
  have hw1 := blk_lt HL1.out.t
  have HO1 := Lib.hid (show ((w1.alloc (.cells #[] 105)).drew).ownsRow (w.heap.size + 1 + 1 + 1) 105 3 (.slice (some ⟨w1.heap.size, 0, none⟩) 0 0) 0 [] from ⟨rfl, .inr ⟨w1.heap.size, 0, #[], rfl, blk_lt HL1.out.e, heap_new_at w1 _ _ rfl, Nat.le_refl _, by decide, rfl, rfl⟩⟩)
  have HRW1 := Lib.hid (show Rw ((w1.alloc (.cells #[] 105)).drew) 105 r c 3 (rowsE l) from HRW.out.same ((heap_old_at w1 _ _ (by have := HL1.out.b.size; omega)).trans (HL1.out.b.block r hrl)))
  have HS1 := Lib.hid (show Src ((w1.alloc (.cells #[] 105)).drew) 3 (some ⟨r, 0, none⟩) i c ((rowsE l).take i) by
    have := HRW1.out.src (oneE l) (by omega) 0 i c (by simp; omega)
    simpa using this)
  have hb9 := blk_lt HL1.out.e
  have hS0 : ((w1.alloc (.cells #[] 105)).drew).cell? ⟨w.heap.size, 2, none⟩ = some (.slice (some ⟨r, 0, none⟩) l.length c) := (cell_old w1 _ _ hw1).trans t2
  have hS1 : ((w1.alloc (.cells #[] 105)).drew).frozen? ⟨w.heap.size, 2, none⟩ = false := (World.frozen?_alloc_old w1 _ ⟨w.heap.size, 2, none⟩ (by show w.heap.size ≠ w1.heap.size; omega)).trans (tz 2)
  have hz2 : ∀ j, w1.frozen? ⟨w.heap.size, j, none⟩ = false := fun j => frozen_at HL1.out.t
  go_cut [] (fun wx => ∃ s' : Sl, Laid3 w server most s'.a s'.n s'.c wx ∧ RowOf wx (fun g => w.heap.size + 1 + 1 < g) 105 3 s' (rowsE (l.take i ++ l.drop (i + 1))))
  case first =>
    go_region_law
      (first
        | (refine step_append_src _ (by rfl) _ _ _ (by rfl) (w.heap.size + 1 + 1 + 1) 105 i0 _ 3 48 Tryz.underlying32 HI.out HZ0.out HZ1.out HZ2.out rfl (by omega) _ 0 [] (by rfl) HO1.out _ i c ((rowsE l).take i) (by rfl) HS1.out (by clear bw; unfold maxLen; omega) (by clear bw; omega) (by have := blk_lt HL1.out.e; simp; omega) ?_; intro a1 cap1 w2 hown1 hgrow hat1
           simp only [Nat.zero_add, List.nil_append] at hown1 hat1 ⊢
           have hob9 : ∀ j, (Value.slice a1 i cap1).ownBlock = some j → w.heap.size + 1 + 1 < j := by
             intro j hj
             rcases hat1 with h | h
             · rw [h] at hj; simp only [Value.ownBlock] at hj; injection hj with hj; omega
             · rw [h] at hj; injection hj with hj; rw [← hj]; simp; omega
           have hob : (Value.slice a1 i cap1).ownBlock ≠ some w.heap.size := fun e => by have := hob9 _ e; omega
           have hw2 : w1.heap.size < w2.heap.size := by have := hgrow.size; simp at this; omega
           have hc2 := (hgrow.cell_far ⟨w.heap.size, 2, none⟩ (by clear bw; simp; omega) (by clear bw; simp only [Value.ownBlock]; intro he; injection he with he; omega)).trans hS0
           have hf2 := (hgrow.frozen_far ⟨w.heap.size, 2, none⟩ (by clear bw; simp; omega) (by clear bw; simp only [Value.ownBlock]; intro he; injection he with he; omega)).trans hS1
           have hrw2 : Rw w2 105 r c 3 (rowsE l) := HRW1.out.same (hgrow.block _ (by simp; omega) (by simp only [Value.ownBlock]; intro he; injection he with he; omega)))
        | (refine step_append_src _ (by rfl) _ _ _ (by rfl) (w.heap.size + 1 + 1 + 1) 105 i0 _ 3 48 Tryz.underlying32 HI.out HZ0.out HZ1.out HZ2.out rfl (by omega) _ _ _ (by rfl) hown1 _ _ _ ((rowsE l).drop (i + 1)) (by rfl) (src_rest hrw2 (i + 1) (by omega)) (by clear bw; unfold maxLen; omega) (by clear bw; omega) (by clear bw; omega) ?_; intro a2 cap2 w3 hown2 hgrow2 hat2
           have hc3 := (hgrow2.cell_far ⟨w.heap.size, 2, none⟩ (by clear bw; show w.heap.size < w2.heap.size; omega) (by intro he; exact hob he.symm)).trans hc2
           have hf3 := (hgrow2.frozen_far ⟨w.heap.size, 2, none⟩ (by clear bw; show w.heap.size < w2.heap.size; omega) (by intro he; exact hob he.symm)).trans hf2))
    all_goals
      have hl3 := (((HL1.out.alloc3 (.cells #[] 105)).drew.grown hgrow (fun j hj => by simp only [Value.ownBlock] at hj; injection hj with hj; omega)).grown hgrow2 hob9).put a2 (i + (l.length - (i + 1))) cap2
      obtain ⟨s', hs', hro⟩ := RowOf.of_own (l := rowsE (l.take i ++ l.drop (i + 1))) (by rw [flat_two]; exact hown2) (fun y hy => by obtain ⟨z, _, rfl⟩ := List.mem_map.1 hy; rfl) (by decide) (by simp; omega)
      obtain ⟨sa, sn, sc⟩ := s'
      simp only [Sl.val] at hs'
      injection hs' with hs1 hs2 hs3
      subst hs1 hs2 hs3
      have HL3 := Lib.hid hl3
      have HRO := Lib.hid hro
      clear hl3 hro
      generalize (if c = i + 1 then some (⟨r, 0, none⟩ : Addr) else some ⟨r, (i + 1) * 3, none⟩) = aw
      go_wp2_with fail
      go_meet
      exact ⟨⟨a2, _, cap2⟩, HL3.out, (HRO.out.same (by simp [World.setCell]) (fun g hg hP => Below.heap_setCell _ _ _ _ (by show g ≠ w.heap.size; omega))).mono (fun g _ h => by omega)⟩
  case rest =>
    clear t0 t1 t2 r0 r1 r2 e0 e1 e2 rz ez tz c2 HO1 HRW1 HS1 hS0 hS1 hz2
    obtain ⟨⟨sa, sn, sc⟩, hl, hro⟩ := hcut
    have t0 := cell_at (j := 0) hl.t rfl
    have t1 := cell_at (j := 1) hl.t rfl
    have t2 := cell_at (j := 2) hl.t rfl
    have r0 := cell_at (j := 0) hl.r rfl
    have r1 := cell_at (j := 1) hl.r rfl
    have r2 := cell_at (j := 2) hl.r rfl
    have e0 := cell_at (j := 0) hl.e rfl
    have e1 := cell_at (j := 1) hl.e rfl
    have e2 := cell_at (j := 2) hl.e rfl
    have rz : ∀ j, wc.frozen? ⟨w.heap.size + 1, j, none⟩ = false := fun j => frozen_at hl.r
    have ez : ∀ j, wc.frozen? ⟨w.heap.size + 1 + 1, j, none⟩ = false := fun j => frozen_at hl.e
    have tz : ∀ j, wc.frozen? ⟨w.heap.size, j, none⟩ = false := fun j => frozen_at hl.t
    have HL4 := Lib.hid hl
    have HRO := Lib.hid hro
    clear hl hro
    go_wp2_with fail
    go_region_law (go_simp; go_at_call 31; refine (rnone_calls _).mono ?_; rintro e wv ⟨rfl, hb⟩
                   have hl : Laid3 w server most sa sn sc wv := by first | exact HL4.out.drew.next hb | exact HL4.out.next hb
                   have hrv : RowOf wv (fun g => w.heap.size + 1 + 1 < g) 105 3 ⟨sa, sn, sc⟩ (rowsE (l.take i ++ l.drop (i + 1))) := HRO.out.same hb.size (fun g hg _ => hb.block g hg)
                   have t0 := cell_at (j := 0) hl.t rfl
                   have t1 := cell_at (j := 1) hl.t rfl
                   have t2 := cell_at (j := 2) hl.t rfl
                   have r0 := cell_at (j := 0) hl.r rfl
                   have r1 := cell_at (j := 1) hl.r rfl
                   have r2 := cell_at (j := 2) hl.r rfl
                   have e0 := cell_at (j := 0) hl.e rfl
                   have e1 := cell_at (j := 1) hl.e rfl
                   have e2 := cell_at (j := 2) hl.e rfl
                   have rz : ∀ j, wv.frozen? ⟨w.heap.size + 1, j, none⟩ = false := fun j => frozen_at hl.r
                   have ez : ∀ j, wv.frozen? ⟨w.heap.size + 1 + 1, j, none⟩ = false := fun j => frozen_at hl.e
                   have tz : ∀ j, wv.frozen? ⟨w.heap.size, j, none⟩ = false := fun j => frozen_at hl.t
                   have HLV := Lib.hid hl
                   have HRV := Lib.hid hrv
                   clear hl hb hrv
                   simp only [erV, eCells])
    all_goals (go_wp2_with fail)
    all_goals first
    | (refine bodyPost_ret (res_TE rfl _ _ (w.heap.size + 1) (w.heap.size + 1 + 1) #[.string server, .int .i64 most, .slice sa sn sc] #[.int .i64 0, .int .i64 (-1), .string ⟨#[]⟩] rfl (HLV.out.fin _ _ _ _ _ _).1 rfl rfl (HLV.out.fin _ _ _ _ _ _).2.1 rfl) rfl ?_
       exact ⟨⟨sa, sn, sc⟩, rfl, (HRV.out.same (by simp [World.setCell]) (fun g hg hP => (row3_other (by omega)).trans (row3_other (by omega)))).mono (fun g _ h => by omega), (HLV.out.fin _ _ _ _ _ _).2.2⟩)
    | (refine bodyPost_ret (res_TE rfl _ _ (w.heap.size + 1) (w.heap.size + 1 + 1) #[.string server, .int .i64 most, .slice sa sn sc] #[.int .i64 0, .int .i64 (-1), .string ⟨#[]⟩] rfl (HLV.out.fin' _ _ _ _ _ _).1 rfl rfl (HLV.out.fin' _ _ _ _ _ _).2.1 rfl) rfl ?_
       exact ⟨⟨sa, sn, sc⟩, rfl, (HRV.out.same (by simp [World.setCell]) (fun g hg hP => (row3_other (by omega)).trans (row3_other (by omega)))).mono (fun g _ h => by omega), (HLV.out.fin' _ _ _ _ _ _).2.2⟩)
end Go.Proofs.YtgnoaeldmpbjmaaGreatDoor
/- The document's table: a room's aliases; whether acts are few. -/
set_option linter.unusedVariables false
set_option linter.unusedSimpArgs false
namespace Go.Proofs.YtgnoaeldmpbjmaaGreatDoor
open Go.RowKit

set_option maxRecDepth 100000 in
set_option maxHeartbeats 1600000 in
theorem rof_calls (w : World) (server : ByteArray) (most : Int) (s : Sl) (P : Nat → Prop) (l : List En) (room : ByteArray) (hr : RowOf w P 105 3 s (rowsE l)) (hn : l.length ≤ 1000000) :
    Calls Tryz.prog 43 #[.agg (tCells server most s), .string room] w fun e w' => ∃ s' : Sl, e = .returned s'.val ∧ RowOf w' (fun g => w.heap.size ≤ g) 9 1 s' (srows (ofRoom room l)) ∧ Below w.heap.size w w' := by
  have HR := Lib.hid hr
  have HN := Lib.hid hn
  have hll := hn
  obtain ⟨i0, hi, hz0, hz1, hz2⟩ := info_parts infoStr
  have HI := Lib.hid hi
  have HZ0 := Lib.hid hz0
  have HZ1 := Lib.hid hz1
  have HZ2 := Lib.hid hz2
  have hnl : s.n = l.length := by have := hr.1; simpa using this
  obtain ⟨A, n, c⟩ := s
  dsimp only at hnl
  subst hnl
  have hT : (w.alloc (.cells (tCells server most ⟨A, l.length, c⟩) 34)).heap[w.heap.size]? = some (.cells #[.string server, .int .i64 most, .slice A l.length c] 34 (0, 0)) := heap_new_at w _ _ rfl
  have hb0 : Below w.heap.size w (w.alloc (.cells (tCells server most ⟨A, l.length, c⟩) 34)) := (Below.refl _ _).alloc (Nat.le_refl _) _
  have HT := Lib.hid hT
  have HB0 := Lib.hid hb0
  have hsz0 : (w.alloc (.cells (tCells server most ⟨A, l.length, c⟩) 34)).heap.size = w.heap.size + 1 := World.size_alloc _ _
  have HSZ0 := Lib.hid hsz0
  clear hr hn hi hz0 hz1 hz2 hT hb0 hsz0
  simp only [tCells, Sl.val] at *
  go_enter Tryz.func43, Tryz.ntmps43
  go_wp2_with fail
  generalize hw1 : w.alloc (.cells #[.string server, .int .i64 most, .slice A l.length c] 34) = w1 at *
  have HW1 := Lib.hid hw1
  clear hw1
  go_loopw [5, 10] (fun c5 i wr => ∃ k : Nat, k ≤ l.length ∧ i = .int .i64 k ∧ wr.ownsRow w1.heap.size 9 1 c5 (ofRoom room (l.take k)).length (srows (ofRoom room (l.take k))).flatten ∧ Below w1.heap.size w1 wr) (fun _ i _ => l.length - (intOf i).toNat)
  case atStart => exact ⟨0, by omega, rfl, ⟨rfl, .inl ⟨rfl, rfl⟩⟩, Below.refl _ _⟩
  case round =>
    obtain ⟨k, hk, rfl, hown, hb⟩ := hrel
    have HOWN := Lib.hid hown
    have HB1 := Lib.hid hb
    have hbs := hb.size
    have hTr := (hb.block _ (blk_lt HT.out)).trans HT.out
    have t2 : wr.cell? ⟨w.heap.size, 2, none⟩ = some (.slice A l.length c) := cell_at hTr rfl
    clear hTr
    by_cases hlt : k < l.length
    · have hy : l[k]? = some l[k] := List.getElem?_eq_getElem hlt
      have hts : l.take (k + 1) = l.take k ++ [l[k]] := by rw [List.take_succ_eq_append_getElem hlt]
      generalize l[k] = y at hy hts
      have hrow := HR.out.same (w' := wr) (Nat.le_trans HB0.out.size hbs) (fun i hi _ => (hb.block i (Nat.lt_of_lt_of_le hi HB0.out.size)).trans (HB0.out.block i hi))
      obtain ⟨r, ha⟩ : ∃ r, A = some ⟨r, 0, none⟩ := by
        rcases hrow.2.2 with ⟨_, hnil⟩ | ⟨r, h1, _⟩
        · have := congrArg List.length hnil; simp at this; subst this; simp at hlt
        · exact ⟨r, h1⟩
      obtain ⟨_, hrl, hrw⟩ := hrow.at ha
      have hyc : (rowsE l)[k]? = some y.cells.toList := by simp [hy]
      have c0 : wr.cell? ⟨r, k * 3, none⟩ = some (.string y.a) := hrw.cell (d := 0) hyc rfl
      have c1 : wr.cell? ⟨r, k * 3 + 1, none⟩ = some (.string y.r) := hrw.cell (d := 1) hyc rfl
      have HTS := Lib.hid hts
      have hlen : (ofRoom room (l.take k)).length ≤ k := by
        unfold ofRoom
        rw [List.length_map]
        exact Nat.le_trans (List.length_filter_le _ _) (by simp; omega)
      subst ha
      clear hy hts hrow hrw hyc hown hb
      cases hsame : (y.r.toList == room.toList) with
      | false =>
        have HF := Lib.hid (show ofRoom room (l.take (k + 1)) = ofRoom room (l.take k) by rw [HTS.out]; simp [ofRoom, sameB, hsame])
        go_wp2_with fail
        refine ⟨⟨k + 1, by omega, by go_num, by rw [HF.out]; exact HOWN.out, HB1.out⟩, by simp [intOf]; omega⟩
      | true =>
        have HF := Lib.hid (show ofRoom room (l.take (k + 1)) = ofRoom room (l.take k) ++ [y.a] by rw [HTS.out]; simp [ofRoom, sameB, hsame])
        go_wp2_with (at_builtin; refine wpList_append_own _ rfl _ _ 62 rfl w1.heap.size 9 i0 _ 1 16 Tryz.underlying62 HI.out HZ0.out HZ1.out HZ2.out rfl (by decide) _ (ofRoom room (l.take k)).length (srows (ofRoom room (l.take k))).flatten rfl (HOWN.out.alloc _) ⟨wr.heap.size, 0, none⟩ 1 1 [.string y.a] rfl rfl ?c1 ?c2 ?c3 ?c4 ?c5 ?_)
        case c1 =>
          intro j u hj
          exact World.news_of_block (B := wr.heap.size) (cs := #[.string y.a]) (t := 9) (fr := (0, 0)) (heap_new_at _ _ _ rfl) j u hj
        case c2 => intro u hu; simp at hu; subst hu; rfl
        case c3 => unfold maxLen; omega
        case c4 => omega
        case c5 => simp; omega
        intro v' w4 hown4 hg4 _
        have HOWN4 := Lib.hid hown4
        have HB4 := Lib.hid ((HB1.out.alloc HB1.out.size (.cells #[.string y.a] 9)).grown hg4 (by simp; omega) (fun j hj => (HOWN.out.lt j hj).1))
        clear hown4 hg4
        go_wp2_with fail
        refine ⟨⟨k + 1, by omega, by go_num, ?_, HB4.out⟩, by simp [intOf]; omega⟩
        rw [HF.out]
        simpa using HOWN4.out
    · obtain rfl : k = l.length := by omega
      rw [List.take_length] at hown
      obtain ⟨s', rfl, hr'⟩ := RowOf.of_own (l := srows (ofRoom room l)) hown (fun c hc => by obtain ⟨x, _, rfl⟩ := List.mem_map.1 hc; rfl) (by decide) (by
        simp only [List.length_map]
        unfold ofRoom
        rw [List.length_map]
        exact Nat.le_trans (List.length_filter_le _ _) hll)
      have HR' := Lib.hid hr'
      clear hown hr' hb HOWN
      go_wp2_with fail
      go_ret
      exact ⟨s', rfl, HR'.out.mono (fun i _ h => Nat.le_trans HB0.out.size h), HB0.out.trans (HB1.out.mono HB0.out.size)⟩
end Go.Proofs.YtgnoaeldmpbjmaaGreatDoor
/- The document's table: a new one. -/
set_option linter.unusedVariables false
set_option linter.unusedSimpArgs false
namespace Go.Proofs.YtgnoaeldmpbjmaaGreatDoor
open Go.RowKit

structure Laid2 (w wv : World) : Prop where
  r : wv.heap[w.heap.size]? = some (.cells TZ 34 (0, 0))
  e : wv.heap[w.heap.size + 1]? = some (.cells EZ 36 (0, 0))
  b : Below w.heap.size w wv
theorem Laid2.next {w wv wx : World} (h : Laid2 w wv) (hb : Below wv.heap.size wv wx) : Laid2 w wx :=
  ⟨(hb.block _ (blk_lt h.r)).trans h.r, (hb.block _ (blk_lt h.e)).trans h.e, h.b.trans (hb.mono h.b.size)⟩
theorem laid2_made (w : World) : Laid2 w ((w.alloc (.cells TZ 34)).alloc (.cells EZ 36)) :=
  ⟨(heap_old_at _ _ _ (by simp)).trans (heap_new_at _ _ _ rfl), heap_new_at _ _ _ (by simp), ((Below.refl _ _).alloc (Nat.le_refl _) _).alloc (by simp) _⟩
theorem Laid2.fin {w wv : World} (h : Laid2 w wv) (x y z x2 y2 z2 : Value) :
    (row3 (row3 wv w.heap.size x y z) (w.heap.size + 1) x2 y2 z2).heap[w.heap.size]? = some (.cells #[x, y, z] 34 (0, 0)) ∧
    (row3 (row3 wv w.heap.size x y z) (w.heap.size + 1) x2 y2 z2).heap[w.heap.size + 1]? = some (.cells #[x2, y2, z2] 36 (0, 0)) ∧
    Below w.heap.size w (row3 (row3 wv w.heap.size x y z) (w.heap.size + 1) x2 y2 z2) :=
  ⟨(row3_other (by omega)).trans (row3_heap h.r rfl), row3_heap ((row3_other (by omega)).trans h.e) rfl, row3_below (row3_below h.b (Nat.le_refl _) (by omega)) (Nat.le_refl _) (by omega)⟩
abbrev slZ : Sl := ⟨none, 0, 0⟩
set_option maxRecDepth 100000 in
set_option maxHeartbeats 2000000 in
theorem rnew_server (w : World) (s : ByteArray) (n : Int) (hs : s.size ≤ 9223372036854775807) (h1 : serverB s.data.toList = false) :
    Calls Tryz.prog 10 #[.string s, .int .i64 n] w fun e w' => e = .returned (.tuple #[.agg TZ, erV (some ([sServer], 7))]) ∧ Below w.heap.size w w' := by
  have HL := Lib.hid (laid2_made w)
  go_enter Tryz.func10, Tryz.ntmps10
  go_wp2_with fail
  refine (rserver_calls _ s hs).mono ?_
  rintro e w1 ⟨rfl, hb⟩
  rw [h1]
  have HL1 := Lib.hid (HL.out.next hb)
  clear hb HL
  go_wp2_with fail
  refine (rerr_calls _ 7).mono ?_
  rintro e w2 ⟨rfl, hb⟩
  have HL2 := Lib.hid (HL1.out.next hb)
  clear hb
  go_wp2_with fail
  refine (rin01_calls _ sServer [] 7 rfl (by decide) (by simp [pathL])).mono ?_
  rintro e w3 ⟨rfl, hb⟩
  have hl := HL2.out.next hb
  have r0 := cell_at (j := 0) hl.r rfl
  have r1 := cell_at (j := 1) hl.r rfl
  have r2 := cell_at (j := 2) hl.r rfl
  have e0 := cell_at (j := 0) hl.e rfl
  have e1 := cell_at (j := 1) hl.e rfl
  have e2 := cell_at (j := 2) hl.e rfl
  have rz : ∀ j, w3.frozen? ⟨w.heap.size, j, none⟩ = false := fun j => frozen_at hl.r
  have ez : ∀ j, w3.frozen? ⟨w.heap.size + 1, j, none⟩ = false := fun j => frozen_at hl.e
  have HL3 := Lib.hid hl
  clear hb hl
  simp only [erV, eCells]
  go_wp2_with fail
  refine bodyPost_ret (res_TE rfl _ _ w.heap.size (w.heap.size + 1) #[.string ⟨#[]⟩, .int .i64 0, .slice none 0 0] #[.int .i64 7, .int .i64 (-1), .string (ofL (pathL [sServer]))] rfl (HL3.out.fin _ _ _ _ _ _).1 rfl rfl (HL3.out.fin _ _ _ _ _ _).2.1 rfl) rfl ?_
  exact ⟨rfl, (HL3.out.fin _ _ _ _ _ _).2.2⟩
set_option maxRecDepth 100000 in
set_option maxHeartbeats 2000000 in
theorem rnew_low (w : World) (s : ByteArray) (n : Int) (hs : s.size ≤ 9223372036854775807) (h1 : serverB s.data.toList = true) (hn : n < 1) :
    Calls Tryz.prog 10 #[.string s, .int .i64 n] w fun e w' => e = .returned (.tuple #[.agg TZ, erV (some ([sRoom], 8))]) ∧ Below w.heap.size w w' := by
  have g1 : decide (n < (1 : Int)) = true := by simp; omega
  clear hn
  have HL := Lib.hid (laid2_made w)
  go_enter Tryz.func10, Tryz.ntmps10
  go_wp2_with fail
  refine (rserver_calls _ s hs).mono ?_
  rintro e w1 ⟨rfl, hb⟩
  rw [h1]
  have HL1 := Lib.hid (HL.out.next hb)
  clear hb HL
  go_wp2_with fail
  refine (rerr_calls _ 8).mono ?_
  rintro e w2 ⟨rfl, hb⟩
  have HL2 := Lib.hid (HL1.out.next hb)
  clear hb
  go_wp2_with fail
  refine (rin01_calls _ sRoom [] 8 rfl (by decide) (by simp [pathL])).mono ?_
  rintro e w3 ⟨rfl, hb⟩
  have hl := HL2.out.next hb
  have r0 := cell_at (j := 0) hl.r rfl
  have r1 := cell_at (j := 1) hl.r rfl
  have r2 := cell_at (j := 2) hl.r rfl
  have e0 := cell_at (j := 0) hl.e rfl
  have e1 := cell_at (j := 1) hl.e rfl
  have e2 := cell_at (j := 2) hl.e rfl
  have rz : ∀ j, w3.frozen? ⟨w.heap.size, j, none⟩ = false := fun j => frozen_at hl.r
  have ez : ∀ j, w3.frozen? ⟨w.heap.size + 1, j, none⟩ = false := fun j => frozen_at hl.e
  have HL3 := Lib.hid hl
  clear hb hl
  simp only [erV, eCells]
  go_wp2_with fail
  refine bodyPost_ret (res_TE rfl _ _ w.heap.size (w.heap.size + 1) #[.string ⟨#[]⟩, .int .i64 0, .slice none 0 0] #[.int .i64 8, .int .i64 (-1), .string (ofL (pathL [sRoom]))] rfl (HL3.out.fin _ _ _ _ _ _).1 rfl rfl (HL3.out.fin _ _ _ _ _ _).2.1 rfl) rfl ?_
  exact ⟨rfl, (HL3.out.fin _ _ _ _ _ _).2.2⟩
set_option maxRecDepth 100000 in
set_option maxHeartbeats 2000000 in
theorem rnew_high (w : World) (s : ByteArray) (n : Int) (hs : s.size ≤ 9223372036854775807) (h1 : serverB s.data.toList = true) (hn : 400 < n) :
    Calls Tryz.prog 10 #[.string s, .int .i64 n] w fun e w' => e = .returned (.tuple #[.agg TZ, erV (some ([sRoom], 8))]) ∧ Below w.heap.size w w' := by
  have g1 : decide (n < (1 : Int)) = false := by simp; omega
  have g2 : decide ((400 : Int) < n) = true := by simp; omega
  clear hn
  have HL := Lib.hid (laid2_made w)
  go_enter Tryz.func10, Tryz.ntmps10
  go_wp2_with fail
  refine (rserver_calls _ s hs).mono ?_
  rintro e w1 ⟨rfl, hb⟩
  rw [h1]
  have HL1 := Lib.hid (HL.out.next hb)
  clear hb HL
  go_wp2_with fail
  refine (rerr_calls _ 8).mono ?_
  rintro e w2 ⟨rfl, hb⟩
  have HL2 := Lib.hid (HL1.out.next hb)
  clear hb
  go_wp2_with fail
  refine (rin01_calls _ sRoom [] 8 rfl (by decide) (by simp [pathL])).mono ?_
  rintro e w3 ⟨rfl, hb⟩
  have hl := HL2.out.next hb
  have r0 := cell_at (j := 0) hl.r rfl
  have r1 := cell_at (j := 1) hl.r rfl
  have r2 := cell_at (j := 2) hl.r rfl
  have e0 := cell_at (j := 0) hl.e rfl
  have e1 := cell_at (j := 1) hl.e rfl
  have e2 := cell_at (j := 2) hl.e rfl
  have rz : ∀ j, w3.frozen? ⟨w.heap.size, j, none⟩ = false := fun j => frozen_at hl.r
  have ez : ∀ j, w3.frozen? ⟨w.heap.size + 1, j, none⟩ = false := fun j => frozen_at hl.e
  have HL3 := Lib.hid hl
  clear hb hl
  simp only [erV, eCells]
  go_wp2_with fail
  refine bodyPost_ret (res_TE rfl _ _ w.heap.size (w.heap.size + 1) #[.string ⟨#[]⟩, .int .i64 0, .slice none 0 0] #[.int .i64 8, .int .i64 (-1), .string (ofL (pathL [sRoom]))] rfl (HL3.out.fin _ _ _ _ _ _).1 rfl rfl (HL3.out.fin _ _ _ _ _ _).2.1 rfl) rfl ?_
  exact ⟨rfl, (HL3.out.fin _ _ _ _ _ _).2.2⟩
set_option maxRecDepth 100000 in
set_option maxHeartbeats 2000000 in
theorem rnew_ok (w : World) (s : ByteArray) (n : Int) (hs : s.size ≤ 9223372036854775807) (h1 : serverB s.data.toList = true) (hn : 1 ≤ n) (hn2 : n ≤ 400) :
    Calls Tryz.prog 10 #[.string s, .int .i64 n] w fun e w' => e = .returned (.tuple #[.agg (tCells s n slZ), erV none]) ∧ Below w.heap.size w w' := by
  have g1 : decide (n < (1 : Int)) = false := by simp; omega
  have g2 : decide ((400 : Int) < n) = false := by simp; omega
  clear hn hn2
  have HL := Lib.hid (laid2_made w)
  go_enter Tryz.func10, Tryz.ntmps10
  go_wp2_with fail
  refine (rserver_calls _ s hs).mono ?_
  rintro e w1 ⟨rfl, hb⟩
  rw [h1]
  have HL1 := Lib.hid (HL.out.next hb)
  clear hb HL
  go_wp2_with fail
  refine (rnone_calls _).mono ?_
  rintro e w3 ⟨rfl, hb⟩
  have hl := HL1.out.next hb
  have r0 := cell_at (j := 0) hl.r rfl
  have r1 := cell_at (j := 1) hl.r rfl
  have r2 := cell_at (j := 2) hl.r rfl
  have e0 := cell_at (j := 0) hl.e rfl
  have e1 := cell_at (j := 1) hl.e rfl
  have e2 := cell_at (j := 2) hl.e rfl
  have rz : ∀ j, w3.frozen? ⟨w.heap.size, j, none⟩ = false := fun j => frozen_at hl.r
  have ez : ∀ j, w3.frozen? ⟨w.heap.size + 1, j, none⟩ = false := fun j => frozen_at hl.e
  have HL3 := Lib.hid hl
  clear hb hl
  simp only [erV, eCells]
  go_wp2_with fail
  refine bodyPost_ret (res_TE rfl _ _ w.heap.size (w.heap.size + 1) #[.string s, .int .i64 n, .slice none 0 0] #[.int .i64 0, .int .i64 (-1), .string ⟨#[]⟩] rfl (HL3.out.fin _ _ _ _ _ _).1 rfl rfl (HL3.out.fin _ _ _ _ _ _).2.1 rfl) rfl ?_
  exact ⟨rfl, (HL3.out.fin _ _ _ _ _ _).2.2⟩
end Go.Proofs.YtgnoaeldmpbjmaaGreatDoor
/- Acts that came in; whether they are few. -/
set_option linter.unusedVariables false
namespace Go.Proofs.YtgnoaeldmpbjmaaGreatDoor
open Go.RowKit

/-- An act. -/
structure Ac where
  drop : Bool
  may : Bool
  a : ByteArray
  r : ByteArray
  b : ByteArray
abbrev Ac.cells (x : Ac) : Array Value := #[.bool x.drop, .bool x.may, .string x.a, .string x.r, .string x.b]
theorem addr_add_block (x : Addr) (n : Nat) : (x.add n).block = x.block := by unfold Addr.add; split <;> rfl
/-- A list of acts that came in. -/
def InA (w : World) (a : Option Addr) (len : Nat) (l : List Ac) : Prop :=
  len = l.length ∧ l.length ≤ 9223372036854775807 ∧ (∀ y ∈ l, y.a.size ≤ 9223372036854775807 ∧ y.r.size ≤ 9223372036854775807 ∧ y.b.size ≤ 9223372036854775807) ∧ (0 < l.length → ∃ x : Addr, a = some x ∧ x.block < w.heap.size ∧ ∀ (i : Nat) (y : Ac), l[i]? = some y →
    w.cell? (x.add (i * 5)) = some (.bool y.drop) ∧ w.cell? ⟨(x.add (i * 5)).block, (x.add (i * 5)).off + 1, none⟩ = some (.bool y.may) ∧ w.cell? ⟨(x.add (i * 5)).block, (x.add (i * 5)).off + 2, none⟩ = some (.string y.a) ∧
    w.cell? ⟨(x.add (i * 5)).block, (x.add (i * 5)).off + 3, none⟩ = some (.string y.r) ∧ w.cell? ⟨(x.add (i * 5)).block, (x.add (i * 5)).off + 4, none⟩ = some (.string y.b))
theorem InA.below {B : Nat} {w w' : World} {a : Option Addr} {len : Nat} {l : List Ac} (h : InA w a len l) (hb : Below B w w') (hB : B = w.heap.size) : InA w' a len l := by
  obtain ⟨h1, h2, h4, h3⟩ := h
  subst hB
  refine ⟨h1, h2, h4, fun hl => ?_⟩
  obtain ⟨x, ha, hx, hc⟩ := h3 hl
  refine ⟨x, ha, Nat.lt_of_lt_of_le hx hb.size, fun i y hy => ?_⟩
  obtain ⟨c0, c1, c2, c3, c4⟩ := hc i y hy
  have hk : ∀ j, w'.cell? ⟨(x.add (i * 5)).block, (x.add (i * 5)).off + j, none⟩ = w.cell? ⟨(x.add (i * 5)).block, (x.add (i * 5)).off + j, none⟩ := fun j => hb.cell (p := ⟨(x.add (i * 5)).block, (x.add (i * 5)).off + j, none⟩) (by rw [addr_add_block]; exact hx)
  exact ⟨(hb.cell (p := x.add (i * 5)) (by rw [addr_add_block]; exact hx)).trans c0, (hk 1).trans c1, (hk 2).trans c2, (hk 3).trans c3, (hk 4).trans c4⟩
def okA (x : Ac) : Bool := decide (x.a.size ≤ 150) && decide (x.r.size ≤ 150) && decide (x.b.size ≤ 150)
def fewA (l : List Ac) : Bool := l.all okA && decide (l.length ≤ 40)
set_option maxRecDepth 100000 in
set_option maxHeartbeats 2000000 in
theorem fewA_calls (w : World) (a : Option Addr) (c : Nat) (l : List Ac) (h : InA w a l.length l) : Calls Tryz.prog 7 #[.slice a l.length c] w fun e w' => e = .returned (.bool (fewA l)) ∧ Below w.heap.size w w' := by
  have hlen := h.2.1
  have HIN := Lib.hid h
  clear h
  go_enter Tryz.func7, Tryz.ntmps7
  go_wp2_with fail
  go_loopw [7] (fun c7 wr => ∃ i : Nat, i ≤ l.length ∧ c7 = .int .i64 i ∧ (∀ (j : Nat) (y : Ac), j < i → l[j]? = some y → okA y = true) ∧ Below w.heap.size w wr) (fun c7 _ => l.length - (intOf c7).toNat)
  case atStart => exact ⟨0, by omega, rfl, by omega, Below.refl _ _⟩
  case round =>
    obtain ⟨i, hi, rfl, hall, hb⟩ := hrel
    have HALL := Lib.hid hall
    have HB := Lib.hid hb
    have hbs := hb.size
    clear hall
    by_cases hlt : i < l.length
    · have hy : l[i]? = some l[i] := List.getElem?_eq_getElem hlt
      obtain ⟨x, rfl, hxl, hc⟩ := (HIN.out.below hb rfl).2.2.2 (by omega)
      generalize l[i] = y at hy
      obtain ⟨c0, c1, c2, c3, c4⟩ := hc i y hy
      have HY := Lib.hid hy
      have HBAD := Lib.hid (show okA y = false → fewA l = false by
        intro h
        have : l.all okA = false := List.all_eq_false.2 ⟨y, List.mem_of_getElem? hy, by rw [h]; simp⟩
        simp [fewA, this])
      clear hy hc hb
      by_cases h1 : y.a.size ≤ 150
      · by_cases h2 : y.r.size ≤ 150
        · by_cases h3 : y.b.size ≤ 150
          · have HOK := Lib.hid (show okA y = true by simp [okA, h1, h2, h3])
            go_wp2_with fail
            refine ⟨⟨i + 1, by omega, by go_num, ?_, HB.out.alloc HB.out.size _⟩, by simp [intOf]; omega⟩
            intro j z hj hz
            by_cases hji : j = i
            · subst hji
              rw [HY.out] at hz
              cases hz
              exact HOK.out
            · exact HALL.out j z (by omega) hz
          · have HOK := Lib.hid (show okA y = false by simp [okA, h3])
            go_wp2_with fail
            go_ret
            exact ⟨by rw [HBAD.out HOK.out]; rfl, HB.out.alloc HB.out.size _⟩
        · have HOK := Lib.hid (show okA y = false by simp [okA, h2])
          go_wp2_with fail
          go_ret
          exact ⟨by rw [HBAD.out HOK.out]; rfl, HB.out.alloc HB.out.size _⟩
      · have HOK := Lib.hid (show okA y = false by simp [okA, h1])
        go_wp2_with fail
        go_ret
        exact ⟨by rw [HBAD.out HOK.out]; rfl, HB.out.alloc HB.out.size _⟩
    · obtain rfl : i = l.length := by omega
      clear hb
      have hall : l.all okA = true := by
        rw [List.all_eq_true]
        intro z hz
        obtain ⟨j, hj⟩ := List.mem_iff_getElem?.1 hz
        exact HALL.out j z (List.getElem?_eq_some_iff.1 hj).1 hj
      have HF := Lib.hid (show fewA l = decide (l.length ≤ 40) by simp [fewA, hall])
      clear hall
      go_wp2_with fail
      go_ret
      refine ⟨?_, HB.out⟩
      rw [HF.out]
      simp
      try omega
end Go.Proofs.YtgnoaeldmpbjmaaGreatDoor
/- What came in, opened: a list of acts; the listed variable's cell. -/
set_option linter.unusedVariables false
namespace Go.Proofs.YtgnoaeldmpbjmaaGreatDoor
open Go.RowKit Go.ChangeShapes Go.WideShapes Go.ChangeAt

theorem cellsA : Tryz.prog.cellsOf 40 = 5 := by kernel_rfl
theorem cellsS : Tryz.prog.cellsOf 9 = 1 := by kernel_rfl
theorem cellsB : Tryz.prog.cellsOf 4 = 1 := by kernel_rfl
theorem list5 (l : List Value) (h : l.length = 5) : ∃ a b c d e, l = [a, b, c, d, e] := by
  match l, h with
  | [a, b, c, d, e], _ => exact ⟨a, b, c, d, e, rfl⟩
theorem collectA {Q : Nat → Ac → Prop} : ∀ len : Nat, (∀ i, i < len → ∃ y : Ac, Q i y) → ∃ l : List Ac, l.length = len ∧ ∀ (i : Nat) (y : Ac), l[i]? = some y → Q i y
  | 0, _ => ⟨[], rfl, by simp⟩
  | len + 1, h => by
    obtain ⟨l, hl, hall⟩ := collectA len (fun i hi => h i (by omega))
    obtain ⟨y, hy⟩ := h len (by omega)
    refine ⟨l ++ [y], by simp [hl], fun i z hz => ?_⟩
    by_cases hi : i < l.length
    · rw [List.getElem?_append_left hi] at hz
      exact hall i z hz
    · rw [List.getElem?_append_right (by omega)] at hz
      have hil : i = len := by
        have := (List.getElem?_eq_some_iff.1 hz).1
        simp at this; omega
      subst hil
      simp [hl] at hz
      subst hz
      exact hy
theorem open_acts {H : Type} {enc : TypeId × Value → H} {W : World} {held : Bool} {fuel : Nat} {cs : List Value} {x : DataW H × List MemPlace} (h : DataW.trod enc Tryz.prog W 0 (fun _ => true) held fuel 22 cs = some x) :
    ∃ (a : Option Addr) (cap : Nat) (l : List Ac), cs = [.slice a l.length cap] ∧ InA W a l.length l := by
  rcases DataW.trod_slice Tryz.underlying22 h with ⟨hcs, _⟩ | ⟨a, len, cap, elems, rest, n, _, hcs, _, _, hlc, hcm, hel, hget, _, _⟩
  · exact ⟨none, 0, [], hcs, rfl, by simp, by simp, fun h => absurd h (by simp)⟩
  · have hone : ∀ i, i < len → ∃ y : Ac, (y.a.size ≤ maxLen ∧ y.r.size ≤ maxLen ∧ y.b.size ≤ maxLen) ∧ W.cell? (a.add (i * 5)) = some (.bool y.drop) ∧ W.cell? ⟨(a.add (i * 5)).block, (a.add (i * 5)).off + 1, none⟩ = some (.bool y.may) ∧ W.cell? ⟨(a.add (i * 5)).block, (a.add (i * 5)).off + 2, none⟩ = some (.string y.a) ∧
        W.cell? ⟨(a.add (i * 5)).block, (a.add (i * 5)).off + 3, none⟩ = some (.string y.r) ∧ W.cell? ⟨(a.add (i * 5)).block, (a.add (i * 5)).off + 4, none⟩ = some (.string y.b) := by
      intro i hi
      have h1 := hget i hi
      rw [cellsA, List.getElem?_eq_getElem (by omega)] at h1
      obtain ⟨c, hc, htr⟩ := Option.bind_eq_some_iff.1 h1
      obtain ⟨_, hcl, hcc⟩ := World.cells?_some hc
      obtain ⟨c0, c1, c2, c3, c4, rfl⟩ := list5 c hcl
      obtain ⟨xs, m, _, _, _, hxl, hg⟩ := DataW.trod_struct Tryz.underlying40 htr
      have hxl5 : xs.length = 5 := hxl
      have g0 : DataW.trod enc Tryz.prog W 0 (fun _ => true) held m 4 (([c0, c1, c2, c3, c4].drop 0).take (Tryz.prog.cellsOf 4)) = xs[0]? := hg 0 _ rfl
      have g1 : DataW.trod enc Tryz.prog W 0 (fun _ => true) held m 4 (([c0, c1, c2, c3, c4].drop 1).take (Tryz.prog.cellsOf 4)) = xs[1]? := hg 1 _ rfl
      have g2 : DataW.trod enc Tryz.prog W 0 (fun _ => true) held m 9 (([c0, c1, c2, c3, c4].drop 2).take (Tryz.prog.cellsOf 9)) = xs[2]? := hg 2 _ rfl
      have g3 : DataW.trod enc Tryz.prog W 0 (fun _ => true) held m 9 (([c0, c1, c2, c3, c4].drop 3).take (Tryz.prog.cellsOf 9)) = xs[3]? := hg 3 _ rfl
      have g4 : DataW.trod enc Tryz.prog W 0 (fun _ => true) held m 9 (([c0, c1, c2, c3, c4].drop 4).take (Tryz.prog.cellsOf 9)) = xs[4]? := hg 4 _ rfl
      rw [cellsB, List.getElem?_eq_getElem (by omega)] at g0 g1
      rw [cellsS, List.getElem?_eq_getElem (by omega)] at g2 g3 g4
      obtain ⟨b0, e0, _⟩ := DataW.trod_bool Tryz.underlying4 g0
      obtain ⟨b1, e1, _⟩ := DataW.trod_bool Tryz.underlying4 g1
      obtain ⟨s2, e2, _, z2⟩ := DataW.trod_string Tryz.underlying9 g2
      obtain ⟨s3, e3, _, z3⟩ := DataW.trod_string Tryz.underlying9 g3
      obtain ⟨s4, e4, _, z4⟩ := DataW.trod_string Tryz.underlying9 g4
      simp at e0 e1 e2 e3 e4
      subst e0 e1 e2 e3 e4
      have e : ∀ k, (a.add (i * 5)).add k = ⟨(a.add (i * 5)).block, (a.add (i * 5)).off + k, none⟩ ∨ k = 0 := by
        intro k
        rcases Nat.eq_zero_or_pos k with h | h
        · exact .inr h
        · refine .inl ?_
          rw [Addr.add]; simp; omega
      have q : ∀ k v, W.cell? ((a.add (i * 5)).add k) = some v → 0 < k → W.cell? ⟨(a.add (i * 5)).block, (a.add (i * 5)).off + k, none⟩ = some v := by
        intro k v h hk
        rcases e k with h1 | h1
        · rw [h1] at h; exact h
        · omega
      refine ⟨⟨b0, b1, s2, s3, s4⟩, ⟨z2, z3, z4⟩, ?_, q 1 _ (by simpa using hcc 1 (by simp)) (by omega), q 2 _ (by simpa using hcc 2 (by simp)) (by omega), q 3 _ (by simpa using hcc 3 (by simp)) (by omega), q 4 _ (by simpa using hcc 4 (by simp)) (by omega)⟩
      have := hcc 0 (by simp)
      have e : (a.add (i * 5)).add 0 = a.add (i * 5) := by
        rw [Addr.add]; simp
      rw [e] at this
      simpa using this
    obtain ⟨l, hl, hall⟩ := collectA len hone
    subst hl
    refine ⟨some a, cap, l, hcs, rfl, by unfold maxLen at hcm; omega, fun y hy => ?_, fun hpos => ⟨a, rfl, ?_, fun i y hy => (hall i y hy).2⟩⟩
    · obtain ⟨i, hi⟩ := List.mem_iff_getElem?.1 hy
      have := (hall i y hi).1
      unfold maxLen at this
      exact this
    · have := (hall 0 (l[0]'hpos) (List.getElem?_eq_getElem hpos)).2.1
      have hb := World.block_lt_of_cell? W _ this
      rw [addr_add_block] at hb
      exact hb

theorem own : ownKnob Tryz.prog.godebug = none := by kernel_rfl
theorem laidOut : laidOutB Tryz.prog = true := by kernel_rfl
abbrev laidL : List (String × DataW Unit) := [("errors.errorType", Rows.laid_errors_errorType)]
theorem et_named : Tryz.prog.globalNamed "errors.errorType" = some 0 := by kernel_rfl
theorem rt_cut : (Tryz.prog.cutTypes.find? (·.1 == "internal/reflectlite.rtype")).map (·.2) = some 160 := by kernel_rfl
theorem err_row : ((List.range Tryz.prog.types.size).filter fun t => Tryz.prog.rowNamed t [101, 114, 114, 111, 114]) = [29] := by kernel_rfl
/-- What the listed variable gives a walk. -/
theorem et_of {W : World} (h : laidMetH Tryz.prog laidL W) : Et W := by
  have h' : laidMet Tryz.prog [] W ∧ handlesMet Tryz.prog laidL W := h
  obtain ⟨name, u, ty, e1, e2, e3, e4, e5⟩ := h'.2 _ (List.mem_singleton.2 rfl)
  have en : name = [101, 114, 114, 111, 114] := (Option.some.inj e1).symm
  subst en
  obtain rfl := Option.some.inj (rt_cut.symm.trans e2)
  have hm : ty ∈ (List.range Tryz.prog.types.size).filter fun t => Tryz.prog.rowNamed t [101, 114, 114, 111, 114] := List.mem_filter.2 ⟨List.mem_range.2 e3, e4⟩
  rw [err_row] at hm
  obtain rfl := List.mem_singleton.1 hm
  exact World.var?_cell et_named e5 0
theorem mx_of {w : World} (h : w.ShapedOpen Tryz.prog) : Mx w :=
  Go.Proofs.cell_of_shapedOpen_int (zero := #[.int .i64 0]) (t := 3) h (of_decide_eq_true (by kernel_rfl)) (by kernel_rfl) rfl (by kernel_rfl) (by kernel_rfl) Tryz.underlying3
/-- A world that meets the condition. -/
noncomputable def laidWorld (os : Os) : World :=
  let w0 := World.holding Tryz.prog os ⟨#[], #[], []⟩
  { w0 with heap := w0.heap.modify 0 fun
      | .cells _ t frozen => .cells #[.iface 160 (.agg #[typeHandle Tryz.prog 29])] t frozen
      | o => o }
theorem laidWorld_met (os : Os) (args : Array Value) : laidMetH Tryz.prog laidL ((laidWorld os).forCall (fun _ _ => 0) ⟨#[], args, []⟩).memory :=
  laidMetH_of_parts (laidMet_nil _ _) (by kernel_rfl)
/-- The wrap, with the listed variables' condition and the world's shape both handed on. -/
theorem returns_laid_shaped {H : Type} {enc : TypeId × Value → H} {a : Assume} {C : Checked} {os : Os} {f : FuncId} {fn : Func} {s : ChangeSpec} {conds : List PathCond} {apart fresh handsOn again : Bool} {X : World → Array Value → Prop}
    (hX : ∀ (w w' : World) (args : Array Value), w.heap = w'.heap → X w args → X w' args)
    (own : ownKnob C.prog.godebug = none) (started : os.Started) (noInit : C.prog.inits.idxOf? f = none) (hfn : C.prog.funcs[f]? = some fn)
    (witness : ∃ (w : World) (tape : Tape) (i : Input), w.os = os ∧ (w.forCall tape i).Shaped C.prog ∧ i.vars = [] ∧ Input.okWide C.prog (w.forCall tape i) .any w.heap.size f i ∧
      ((s.pre enc C.prog fn conds apart (w.forCall tape i).memory i.args ∧ X (w.forCall tape i).memory i.args) ∧ sizedMet enc C.prog fn (OpenSpec.ofChange s) apart (w.forCall tape i).memory i.args) ∧ a.holds C.prog (lone (Frame.enter C.prog f i.args .normal) [] (w.forCall tape i)))
    (contract : ∀ (W : World) (base : Nat) (args : Array Value) (ds gs : List (DataW H)) (before : List MemPlace),
      (∀ (j : Nat) t v, fn.params[j]? = some t → args[j]? = some v → Value.okWide C.prog W .any base t v) →
      DataW.Whole enc C.prog fn.params.toList s.vars apart W args.toList ds gs before → X W args → W.ShapedOpen C.prog →
      Calls C.prog f args W fun e W' => ∃ v, e = .returned v ∧ s.post enc C.prog fn apart fresh handsOn again W args v W') :
    ReturnsInHanded a C os f .any (fun w args => (s.pre enc C.prog fn conds apart w args ∧ X w args) ∧ sizedMet enc C.prog fn (OpenSpec.ofChange s) apart w args) (s.post enc C.prog fn apart fresh handsOn again) := by
  refine returnsInHanded_of_calls own started noInit witness fun w tape i _ hsh _ hok hpre _ => ?_
  obtain ⟨_, _, _, fn', hfn', _, _, _, _, hval⟩ := hok
  obtain rfl : fn' = fn := Option.some.inj (hfn'.symm.trans hfn)
  obtain ⟨⟨⟨ds, gs, before, hw, _⟩, hx⟩, _⟩ := hpre
  refine (contract (w.forCall tape i) w.heap.size i.args ds gs before hval (DataW.Whole.of_heap (w' := w.forCall tape i) (by rfl) hw) (hX _ _ _ (by rfl) hx) hsh).mono fun e W' ⟨v, he, hp⟩ => ?_
  subst he
  exact ChangeSpec.post_blind hp
end Go.Proofs.YtgnoaeldmpbjmaaGreatDoor
/- The document's table: an alias is given. -/
set_option linter.unusedVariables false
set_option linter.unusedSimpArgs false
namespace Go.Proofs.YtgnoaeldmpbjmaaGreatDoor
open Go.RowKit

/-- What a call of Add has laid: the table's box, its results, three rows. -/
structure Add0 (w : World) (server : ByteArray) (most : Int) (a : Option Addr) (n c : Nat) (k room by_ : ByteArray) (wv : World) : Prop where
  l : Laid3 w server most a n c wv
  nm : wv.heap[w.heap.size + 1 + 1 + 1]? = some (.cells #[.string sAlias, .string sRoom, .string sUser] 9 (0, 0))
  tx : wv.heap[w.heap.size + 1 + 1 + 1 + 1]? = some (.cells #[.string k, .string room, .string by_] 9 (0, 0))
  kd : wv.heap[w.heap.size + 1 + 1 + 1 + 1 + 1]? = some (.cells #[.int .i64 3, .int .i64 1, .int .i64 2] 3 (0, 0))
theorem Add0.next {w wv wx : World} {server : ByteArray} {most : Int} {a : Option Addr} {n c : Nat} {k room by_ : ByteArray} (h : Add0 w server most a n c k room by_ wv) (hb : Below wv.heap.size wv wx) : Add0 w server most a n c k room by_ wx :=
  ⟨h.l.next hb, (hb.block _ (blk_lt h.nm)).trans h.nm, (hb.block _ (blk_lt h.tx)).trans h.tx, (hb.block _ (blk_lt h.kd)).trans h.kd⟩
theorem Add0.drew {w wv : World} {server : ByteArray} {most : Int} {a : Option Addr} {n c : Nat} {k room by_ : ByteArray} (h : Add0 w server most a n c k room by_ wv) : Add0 w server most a n c k room by_ wv.drew := ⟨h.l.drew, h.nm, h.tx, h.kd⟩
theorem add0_made (w : World) (server : ByteArray) (most : Int) (a : Option Addr) (n c : Nat) (k room by_ : ByteArray) : Add0 w server most a n c k room by_ ((((((w.alloc (.cells #[.string server, .int .i64 most, .slice a n c] 34)).alloc (.cells TZ 34)).alloc (.cells EZ 36)).alloc (.cells #[.string sAlias, .string sRoom, .string sUser] 9)).alloc (.cells #[.string k, .string room, .string by_] 9)).alloc (.cells #[.int .i64 3, .int .i64 1, .int .i64 2] 3)) :=
  ⟨(((laid3_made w server most a n c).alloc3 _).alloc3 _).alloc3 _, (heap_old_at _ _ _ (by simp)).trans ((heap_old_at _ _ _ (by simp)).trans (heap_new_at _ _ _ (by simp))), (heap_old_at _ _ _ (by simp)).trans (heap_new_at _ _ _ (by simp)), heap_new_at _ _ _ (by simp)⟩
set_option maxRecDepth 100000 in
set_option maxHeartbeats 4000000 in
theorem radd_alias (w : World) (server : ByteArray) (most : Int) (s : Sl) (k room by_ : ByteArray) (hk : k.size ≤ 9223372036854775807) (hro : room.size ≤ 9223372036854775807) (hby : by_.size ≤ 9223372036854775807) (h1 : isB 3 k.data.toList = false) :
    Calls Tryz.prog 34 #[.agg (tCells server most s), .string k, .string room, .string by_] w fun e w' => e = .returned (.tuple #[.agg (tCells server most s), erV (some ([sAlias], 7))]) ∧ Below w.heap.size w w' := by
  have HI := Lib.hid (fun W => show Calls Tryz.prog 57 #[.int .i64 3, .string k] W fun e w' => e = .returned (.bool false) ∧ Below W.heap.size W w' from h1 ▸ ris_calls W 3 k (by omega) (by omega) hk)
  obtain ⟨A, n, c⟩ := s
  have HA := Lib.hid (add0_made w server most A n c k room by_)
  clear hk hro hby h1
  simp only [tCells, Sl.val] at *
  go_enter Tryz.func34, Tryz.ntmps34
  go_wp2_with fail
  generalize (((((w.alloc (.cells #[.string server, .int .i64 most, .slice A n c] 34)).alloc (.cells TZ 34)).alloc (.cells EZ 36)).alloc (.cells #[.string sAlias, .string sRoom, .string sUser] 9)).alloc (.cells #[.string k, .string room, .string by_] 9)).alloc (.cells #[.int .i64 3, .int .i64 1, .int .i64 2] 3) = w0 at *
  have t0 := cell_at (j := 0) HA.out.l.t rfl
  have t1 := cell_at (j := 1) HA.out.l.t rfl
  have t2 := cell_at (j := 2) HA.out.l.t rfl
  have r0 := cell_at (j := 0) HA.out.l.r rfl
  have r1 := cell_at (j := 1) HA.out.l.r rfl
  have r2 := cell_at (j := 2) HA.out.l.r rfl
  have e0 := cell_at (j := 0) HA.out.l.e rfl
  have e1 := cell_at (j := 1) HA.out.l.e rfl
  have e2 := cell_at (j := 2) HA.out.l.e rfl
  have rz : ∀ j, w0.frozen? ⟨w.heap.size + 1, j, none⟩ = false := fun j => frozen_at HA.out.l.r
  have ez : ∀ j, w0.frozen? ⟨w.heap.size + 1 + 1, j, none⟩ = false := fun j => frozen_at HA.out.l.e
  have nmj : w0.cell? ⟨w.heap.size + 1 + 1 + 1, 0, none⟩ = some (.string sAlias) := cell_at HA.out.nm rfl
  have txj : w0.cell? ⟨w.heap.size + 1 + 1 + 1 + 1, 0, none⟩ = some (.string k) := cell_at HA.out.tx rfl
  have kdj : w0.cell? ⟨w.heap.size + 1 + 1 + 1 + 1 + 1, 0, none⟩ = some (.int .i64 3) := cell_at HA.out.kd rfl
  refine wp_loop_rounds 1 ?_
  rw [rounds_succ]
  go_wp2_with fail
  go_region_law (go_simp; go_at_call 57; refine (HI.out _).mono ?_; rintro e w1 ⟨rfl, hb⟩
                 have hl : Add0 w server most A n c k room by_ w1 := by first | exact HA.out.drew.next hb | exact HA.out.next hb
                 have t0 := cell_at (j := 0) hl.l.t rfl
                 have t1 := cell_at (j := 1) hl.l.t rfl
                 have t2 := cell_at (j := 2) hl.l.t rfl
                 have r0 := cell_at (j := 0) hl.l.r rfl
                 have r1 := cell_at (j := 1) hl.l.r rfl
                 have r2 := cell_at (j := 2) hl.l.r rfl
                 have e0 := cell_at (j := 0) hl.l.e rfl
                 have e1 := cell_at (j := 1) hl.l.e rfl
                 have e2 := cell_at (j := 2) hl.l.e rfl
                 have rz : ∀ j, w1.frozen? ⟨w.heap.size + 1, j, none⟩ = false := fun j => frozen_at hl.l.r
                 have ez : ∀ j, w1.frozen? ⟨w.heap.size + 1 + 1, j, none⟩ = false := fun j => frozen_at hl.l.e
                 have nmj : w1.cell? ⟨w.heap.size + 1 + 1 + 1, 0, none⟩ = some (.string sAlias) := cell_at hl.nm rfl
                 have HA1 := Lib.hid hl
                 clear hl hb)
  all_goals (go_wp2_with fail)
  all_goals
    go_region_law (first
      | (go_simp; go_at_call 20; refine (rerr_calls _ 7).mono ?_; rintro e wv ⟨rfl, hb⟩
         have hl : Add0 w server most A n c k room by_ wv := by first | exact HLV.out.next hb | exact HA1.out.drew.next hb | exact HA1.out.next hb
         have t0 := cell_at (j := 0) hl.l.t rfl
         have t1 := cell_at (j := 1) hl.l.t rfl
         have t2 := cell_at (j := 2) hl.l.t rfl
         have r0 := cell_at (j := 0) hl.l.r rfl
         have r1 := cell_at (j := 1) hl.l.r rfl
         have r2 := cell_at (j := 2) hl.l.r rfl
         have e0 := cell_at (j := 0) hl.l.e rfl
         have e1 := cell_at (j := 1) hl.l.e rfl
         have e2 := cell_at (j := 2) hl.l.e rfl
         have rz : ∀ j, wv.frozen? ⟨w.heap.size + 1, j, none⟩ = false := fun j => frozen_at hl.l.r
         have ez : ∀ j, wv.frozen? ⟨w.heap.size + 1 + 1, j, none⟩ = false := fun j => frozen_at hl.l.e
         have nmj : wv.cell? ⟨w.heap.size + 1 + 1 + 1, 0, none⟩ = some (.string sAlias) := cell_at hl.nm rfl
         have HLV := Lib.hid hl
         clear hl hb
         simp only [erV, eCells])
      | (go_simp; go_at_call 30; refine (rin01_calls _ sAlias [] 7 rfl (by decide) (by simp [pathL])).mono ?_; rintro e wv ⟨rfl, hb⟩
         have hl : Add0 w server most A n c k room by_ wv := by first | exact HLV.out.next hb | exact HA1.out.drew.next hb | exact HA1.out.next hb
         have t0 := cell_at (j := 0) hl.l.t rfl
         have t1 := cell_at (j := 1) hl.l.t rfl
         have t2 := cell_at (j := 2) hl.l.t rfl
         have r0 := cell_at (j := 0) hl.l.r rfl
         have r1 := cell_at (j := 1) hl.l.r rfl
         have r2 := cell_at (j := 2) hl.l.r rfl
         have e0 := cell_at (j := 0) hl.l.e rfl
         have e1 := cell_at (j := 1) hl.l.e rfl
         have e2 := cell_at (j := 2) hl.l.e rfl
         have rz : ∀ j, wv.frozen? ⟨w.heap.size + 1, j, none⟩ = false := fun j => frozen_at hl.l.r
         have ez : ∀ j, wv.frozen? ⟨w.heap.size + 1 + 1, j, none⟩ = false := fun j => frozen_at hl.l.e
         have nmj : wv.cell? ⟨w.heap.size + 1 + 1 + 1, 0, none⟩ = some (.string sAlias) := cell_at hl.nm rfl
         have HLV := Lib.hid hl
         clear hl hb
         simp only [erV, eCells]))
    all_goals (go_wp2_with fail)
    all_goals first
    | (refine bodyPost_ret (res_TE rfl _ _ (w.heap.size + 1) (w.heap.size + 1 + 1) #[.string server, .int .i64 most, .slice A n c] #[.int .i64 7, .int .i64 (-1), .string (ofL (pathL [sAlias]))] rfl (HLV.out.l.fin _ _ _ _ _ _).1 rfl rfl (HLV.out.l.fin _ _ _ _ _ _).2.1 rfl) rfl ?_
       exact ⟨rfl, (HLV.out.l.fin _ _ _ _ _ _).2.2⟩)
    | (refine bodyPost_ret (res_TE rfl _ _ (w.heap.size + 1) (w.heap.size + 1 + 1) #[.string server, .int .i64 most, .slice A n c] #[.int .i64 7, .int .i64 (-1), .string (ofL (pathL [sAlias]))] rfl (HLV.out.l.fin' _ _ _ _ _ _).1 rfl rfl (HLV.out.l.fin' _ _ _ _ _ _).2.1 rfl) rfl ?_
       exact ⟨rfl, (HLV.out.l.fin' _ _ _ _ _ _).2.2⟩)
end Go.Proofs.YtgnoaeldmpbjmaaGreatDoor
