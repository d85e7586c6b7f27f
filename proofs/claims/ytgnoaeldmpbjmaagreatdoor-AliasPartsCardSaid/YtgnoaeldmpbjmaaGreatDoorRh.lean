/- The document's ident: a name's parts, its kind. -/
import Derived.Test.YtgnoaeldmpbjmaaGreatDoorRg
set_option linter.unusedVariables false
namespace Go.Proofs.YtgnoaeldmpbjmaaGreatDoor
open Go.RowKit

def rsplitV : Option (Nat × List UInt8 × List UInt8) → Value
  | some (k, p, h) => .tuple #[.int .i64 k, .string (ofL p), .string (ofL h)]
  | none => .tuple #[.int .i64 0, .string ⟨#[]⟩, .string ⟨#[]⟩]
set_option maxRecDepth 100000 in
theorem rsplit_calls (w : World) (s : ByteArray) (hs : s.size ≤ 9223372036854775807) :
    Calls Tryz.prog 84 #[.string s] w fun e w' => e = .returned (rsplitV (splitB s.data.toList)) ∧ Below w.heap.size w w' := by
  by_cases h0 : s.size = 0
  · have hse : s = ⟨#[]⟩ := ByteArray.ext (Array.size_eq_zero_iff.1 h0)
    subst hse
    clear h0
    go_enter Tryz.func84, Tryz.ntmps84
    go_wp2_with fail
    refine bodyPost_ret (results_tmp3 rfl _ _ _) rfl ?_
    exact ⟨rfl, Below.refl _ _⟩
  · have hpos : 0 < s.size := by omega
    have hemp : s.data.toList.isEmpty = false := by
      cases h : s.data.toList with
      | nil => have := size_list s; rw [h] at this; simp at this; omega
      | cons a b => rfl
    have hne : ¬ s.toList = [] := by
      rw [ByteArray.toList_eq]
      intro e
      rw [e] at hemp
      cases hemp
    have hne2 : s.toList.isEmpty = false := by rw [ByteArray.toList_eq]; exact hemp
    obtain ⟨c, r, hcr⟩ : ∃ c r, s.data.toList = c :: r := by
      cases h : s.data.toList with
      | nil => have := size_list s; rw [h] at this; simp at this; omega
      | cons a b => exact ⟨a, b, rfl⟩
    have hc0 : s[0] = c := by
      have h1 := byte_at s 0 hpos
      rw [hcr] at h1
      simpa using h1.symm
    have hrs := extract_back s 1
    rw [hcr, List.drop_one, List.tail_cons] at hrs
    have hrl : r.length ≤ 9223372036854775807 := by
      have := size_list s
      rw [hcr] at this
      simp at this
      omega
    have hrsz : (s.extract 1 s.size).size ≤ 9223372036854775807 := by rw [hrs, ← size_list, ofL_list]; exact hrl
    have hC := fun W => rcolon_calls W (s.extract 1 s.size) hrsz
    have hrd : (s.extract 1 s.size).data.toList = r := by rw [hrs, ofL_list]
    rw [hrd] at hC
    have hz := cut_sizes r [58]
    rw [cut_colon] at hz
    have HSP := Lib.hid (show splitB s.data.toList = if kindOf c = 0 then none else if (colonB r).2.2 && allB (fitOf c) 50 (colonB r).1 && serverB (colonB r).2.1 then some (kindOf c, (colonB r).1, (colonB r).2.1) else none by rw [hcr, ← cut_colon]; rfl)
    obtain ⟨part, hpart⟩ : ∃ part, (colonB r).1 = part := ⟨_, rfl⟩
    obtain ⟨host, hhost⟩ : ∃ host, (colonB r).2.1 = host := ⟨_, rfl⟩
    obtain ⟨two, htwo⟩ : ∃ two, (colonB r).2.2 = two := ⟨_, rfl⟩
    rw [hpart, hhost] at hz
    rw [hpart, hhost, htwo] at hC HSP
    have hp1 : (ofL part).size ≤ 9223372036854775807 := by rw [← size_list, ofL_list]; omega
    have hp2 : (ofL host).size ≤ 9223372036854775807 := by rw [← size_list, ofL_list]; omega
    have HAN := Lib.hid (fun W => show Calls Tryz.prog 56 #[.string (ofL part), .int .i64 1, .int .i64 50, .string ⟨lName.toArray⟩] W fun e w' => e = .returned (.bool (allB nameB 50 part)) ∧ w' = W by
      have := rall1 W (ofL part) lName _ cls_name (by decide) 50 (by omega) hp1
      rw [ofL_list] at this
      exact this)
    have HAO := Lib.hid (fun W => show Calls Tryz.prog 56 #[.string (ofL part), .int .i64 1, .int .i64 50, .string ⟨lOpaque.toArray⟩] W fun e w' => e = .returned (.bool (allB opaqueB 50 part)) ∧ w' = W by
      have := rall1 W (ofL part) lOpaque _ cls_opaque (by decide) 50 (by omega) hp1
      rw [ofL_list] at this
      exact this)
    have HSV := Lib.hid (fun W => show Calls Tryz.prog 29 #[.string (ofL host)] W fun e w' => e = .returned (.bool (serverB host)) ∧ Below W.heap.size W w' by
      have := rserver_calls W (ofL host) hp2
      rw [ofL_list] at this
      exact this)
    have HC := Lib.hid hC
    obtain ⟨cn, hcn⟩ : ∃ cn, c.toNat = cn := ⟨_, rfl⟩
    have HKO := Lib.hid (show kindOf c = if cn = 33 then 1 else if cn = 64 then 2 else if cn = 35 then 3 else 0 by unfold kindOf; rw [hcn])
    have HFO := Lib.hid (show fitOf c = if cn = 33 then opaqueB else nameB by unfold fitOf; rw [hcn])
    have e0 : s[0].toNat = cn := by rw [hc0, hcn]
    have HNE := Lib.hid hne
    clear hcr hc0 hrs hrl hrsz hC hrd hz hpart hhost htwo hp1 hp2 hcn hemp h0 hs
    go_enter Tryz.func84, Tryz.ntmps84
    have hcase : cn = 33 ∨ cn = 64 ∨ cn = 35 ∨ (cn ≠ 33 ∧ cn ≠ 64 ∧ cn ≠ 35) := by omega
    rcases hcase with rfl | rfl | rfl | ⟨n1, n2, n3⟩
    case inr.inr.inr =>
      have HK := Lib.hid (show kindOf c = 0 by rw [HKO.out]; simp [n1, n2, n3])
      have e1 : ((s[0].toNat : Int) == 33) = false := by rw [e0]; exact beq_eq_false_iff_ne.2 (by omega)
      have e2 : ((s[0].toNat : Int) == 64) = false := by rw [e0]; exact beq_eq_false_iff_ne.2 (by omega)
      have e3 : ((s[0].toNat : Int) == 35) = false := by rw [e0]; exact beq_eq_false_iff_ne.2 (by omega)
      clear e0 n1 n2 n3
      go_wp2_with fail
      refine (HC.out w).mono ?_
      rintro e w1 ⟨rfl, hb⟩
      have HB := Lib.hid hb
      clear hb HC
      go_wp2_with fail
      refine bodyPost_ret (results_tmp3 rfl _ _ _) rfl ?_
      exact ⟨by rw [HSP.out, if_pos HK.out]; rfl, HB.out⟩
    · have HK := Lib.hid (show kindOf c = 1 by rw [HKO.out]; rfl)
      have HF := Lib.hid (show fitOf c = opaqueB by rw [HFO.out]; rfl)
      have HSP2 := Lib.hid (show splitB s.data.toList = if two && allB opaqueB 50 part && serverB host then some (1, part, host) else none by rw [HSP.out, HK.out, HF.out]; rfl)
      have e1 : s[0].toNat = 33 := e0
      clear e0 HK HF HKO HFO HSP
      go_wp2_with fail
      refine (HC.out w).mono ?_
      rintro e w1 ⟨rfl, hb⟩
      have HB := Lib.hid hb
      have HA := Lib.hid (HAO.out w1)
      have HS := Lib.hid (HSV.out w1)
      clear hb HC HAN HAO HSV
      generalize allB opaqueB 50 part = ab at *
      generalize serverB host = sb at *
      cases two
      · have HSP3 := Lib.hid HSP2.out
        go_wp2_with fail
        refine bodyPost_ret (results_tmp3 rfl _ _ _) rfl ?_
        exact ⟨by rw [HSP3.out]; rfl, HB.out⟩
      · cases ab
        · have HSP3 := Lib.hid HSP2.out
          go_wp2_with fail
          refine HA.out.mono ?_
          rintro e w4 ⟨rfl, rfl⟩
          go_wp2_with fail
          refine bodyPost_ret (results_tmp3 rfl _ _ _) rfl ?_
          exact ⟨by rw [HSP3.out]; rfl, HB.out⟩
        · cases sb <;>
          · have HSP3 := Lib.hid HSP2.out
            go_wp2_with fail
            refine HA.out.mono ?_
            rintro e w4 ⟨rfl, rfl⟩
            go_wp2_with fail
            refine HS.out.mono ?_
            rintro e w5 ⟨rfl, hb5⟩
            have HB5 := Lib.hid (HB.out.trans (hb5.mono HB.out.size))
            clear hb5
            go_wp2_with fail
            refine bodyPost_ret (results_tmp3 rfl _ _ _) rfl ?_
            exact ⟨by rw [HSP3.out]; rfl, HB5.out⟩
    · have HK := Lib.hid (show kindOf c = 2 by rw [HKO.out]; rfl)
      have HF := Lib.hid (show fitOf c = nameB by rw [HFO.out]; rfl)
      have HSP2 := Lib.hid (show splitB s.data.toList = if two && allB nameB 50 part && serverB host then some (2, part, host) else none by rw [HSP.out, HK.out, HF.out]; rfl)
      have e1 : s[0].toNat = 64 := e0
      clear e0 HK HF HKO HFO HSP
      go_wp2_with fail
      refine (HC.out w).mono ?_
      rintro e w1 ⟨rfl, hb⟩
      have HB := Lib.hid hb
      have HA := Lib.hid (HAN.out w1)
      have HS := Lib.hid (HSV.out w1)
      clear hb HC HAN HAO HSV
      generalize allB nameB 50 part = ab at *
      generalize serverB host = sb at *
      cases two
      · have HSP3 := Lib.hid HSP2.out
        go_wp2_with fail
        refine bodyPost_ret (results_tmp3 rfl _ _ _) rfl ?_
        exact ⟨by rw [HSP3.out]; rfl, HB.out⟩
      · cases ab
        · have HSP3 := Lib.hid HSP2.out
          go_wp2_with fail
          refine HA.out.mono ?_
          rintro e w4 ⟨rfl, rfl⟩
          go_wp2_with fail
          refine bodyPost_ret (results_tmp3 rfl _ _ _) rfl ?_
          exact ⟨by rw [HSP3.out]; rfl, HB.out⟩
        · cases sb <;>
          · have HSP3 := Lib.hid HSP2.out
            go_wp2_with fail
            refine HA.out.mono ?_
            rintro e w4 ⟨rfl, rfl⟩
            go_wp2_with fail
            refine HS.out.mono ?_
            rintro e w5 ⟨rfl, hb5⟩
            have HB5 := Lib.hid (HB.out.trans (hb5.mono HB.out.size))
            clear hb5
            go_wp2_with fail
            refine bodyPost_ret (results_tmp3 rfl _ _ _) rfl ?_
            exact ⟨by rw [HSP3.out]; rfl, HB5.out⟩
    · have HK := Lib.hid (show kindOf c = 3 by rw [HKO.out]; rfl)
      have HF := Lib.hid (show fitOf c = nameB by rw [HFO.out]; rfl)
      have HSP2 := Lib.hid (show splitB s.data.toList = if two && allB nameB 50 part && serverB host then some (3, part, host) else none by rw [HSP.out, HK.out, HF.out]; rfl)
      have e1 : s[0].toNat = 35 := e0
      clear e0 HK HF HKO HFO HSP
      go_wp2_with fail
      refine (HC.out w).mono ?_
      rintro e w1 ⟨rfl, hb⟩
      have HB := Lib.hid hb
      have HA := Lib.hid (HAN.out w1)
      have HS := Lib.hid (HSV.out w1)
      clear hb HC HAN HAO HSV
      generalize allB nameB 50 part = ab at *
      generalize serverB host = sb at *
      cases two
      · have HSP3 := Lib.hid HSP2.out
        go_wp2_with fail
        refine bodyPost_ret (results_tmp3 rfl _ _ _) rfl ?_
        exact ⟨by rw [HSP3.out]; rfl, HB.out⟩
      · cases ab
        · have HSP3 := Lib.hid HSP2.out
          go_wp2_with fail
          refine HA.out.mono ?_
          rintro e w4 ⟨rfl, rfl⟩
          go_wp2_with fail
          refine bodyPost_ret (results_tmp3 rfl _ _ _) rfl ?_
          exact ⟨by rw [HSP3.out]; rfl, HB.out⟩
        · cases sb <;>
          · have HSP3 := Lib.hid HSP2.out
            go_wp2_with fail
            refine HA.out.mono ?_
            rintro e w4 ⟨rfl, rfl⟩
            go_wp2_with fail
            refine HS.out.mono ?_
            rintro e w5 ⟨rfl, hb5⟩
            have HB5 := Lib.hid (HB.out.trans (hb5.mono HB.out.size))
            clear hb5
            go_wp2_with fail
            refine bodyPost_ret (results_tmp3 rfl _ _ _) rfl ?_
            exact ⟨by rw [HSP3.out]; rfl, HB5.out⟩
theorem colonB_length (s : List UInt8) : s.length = (colonB s).1.length + (if (colonB s).2.2 then 1 + (colonB s).2.1.length else 0) := by
  induction s with
  | nil => rfl
  | cons c r ih =>
    unfold colonB
    cases hc : (c == 58) with
    | true => simp; omega
    | false =>
      simp only [Bool.false_eq_true, if_false, List.length_cons]
      omega
theorem serverB_length {s : List UInt8} (h : serverB s = true) : s.length ≤ 56 := by
  unfold serverB at h
  rw [cut_colon] at h
  have hl := colonB_length s
  unfold allB at h
  simp only [Bool.and_eq_true, Bool.or_eq_true, Bool.not_eq_true', decide_eq_true_eq] at h
  obtain ⟨⟨_, _, h1⟩, h2⟩ := h
  split at hl
  · rename_i ht
    rcases h2 with h2 | ⟨_, _, h2⟩
    · rw [ht] at h2; cases h2
    · omega
  · omega
/-- A name is short. -/
theorem isB_length {k : Nat} {s : List UInt8} (h : isB k s = true) : s.length ≤ 120 := by
  unfold isB at h
  cases hs : splitB s with
  | none => rw [hs] at h; cases h
  | some x =>
    cases s with
    | nil => simp
    | cons c r =>
      have he : splitB (c :: r) = if kindOf c = 0 then none else if (Lib.cut r [58]).2.2 && allB (fitOf c) 50 (Lib.cut r [58]).1 && serverB (Lib.cut r [58]).2.1 then some (kindOf c, (Lib.cut r [58]).1, (Lib.cut r [58]).2.1) else none := rfl
      rw [he, cut_colon] at hs
      by_cases h0 : kindOf c = 0
      · rw [if_pos h0] at hs; cases hs
      · rw [if_neg h0] at hs
        by_cases h2 : ((colonB r).2.2 && allB (fitOf c) 50 (colonB r).1 && serverB (colonB r).2.1) = true
        · simp only [Bool.and_eq_true] at h2
          obtain ⟨⟨h3, h4⟩, h5⟩ := h2
          have hl := colonB_length r
          rw [if_pos h3] at hl
          have := serverB_length h5
          unfold allB at h4
          simp only [Bool.and_eq_true, decide_eq_true_eq] at h4
          simp only [List.length_cons]
          omega
        · rw [if_neg h2] at hs; cases hs
/-- Is: at rooms, users, aliases. -/
theorem ris_calls (w : World) (k : Nat) (s : ByteArray) (h1 : 1 ≤ k) (hk : k < 4) (hs : s.size ≤ 9223372036854775807) :
    Calls Tryz.prog 57 #[.int .i64 k, .string s] w fun e w' => e = .returned (.bool (isB k s.data.toList)) ∧ Below w.heap.size w w' := by
  have HS := Lib.hid (rsplit_calls w s hs)
  have HR := Lib.hid (show isB k s.data.toList = match splitB s.data.toList with | some (k', _, _) => k' == k | none => false from rfl)
  generalize splitB s.data.toList = x at *
  obtain rfl | rfl | rfl : k = 1 ∨ k = 2 ∨ k = 3 := by omega
  all_goals
    clear h1 hk hs
    go_enter Tryz.func57, Tryz.ntmps57
    go_wp2_with fail
    refine HS.out.mono ?_
    rintro e w1 ⟨rfl, hb⟩
    have HB := Lib.hid hb
    clear hb HS
    cases x with
    | none =>
      have HR2 := Lib.hid HR.out
      unfold rsplitV
      go_wp2_with fail
      go_ret
      exact ⟨by rw [HR2.out]; rfl, HB.out⟩
    | some x =>
      obtain ⟨k', p, h⟩ := x
      have HR2 := Lib.hid HR.out
      unfold rsplitV
      go_wp2_with fail
      go_ret
      refine ⟨?_, HB.out⟩
      rw [HR2.out]
      simp
      rw [Bool.eq_iff_iff]
      simp
      omega
end Go.Proofs.YtgnoaeldmpbjmaaGreatDoor
