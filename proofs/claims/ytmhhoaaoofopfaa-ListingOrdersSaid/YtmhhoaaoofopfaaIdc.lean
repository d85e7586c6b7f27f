/- ident, the end: a name's parts, whether it is of a kind. -/
import Derived.Test.YtmhhoaaoofopfaaIdb
namespace Go.Proofs.Ytmhhoaaoofopfaa
open Go.RowKit

def kindOf (c : UInt8) : Nat := if c.toNat = 33 then 1 else if c.toNat = 64 then 2 else if c.toNat = 35 then 3 else 0
def fitOf (c : UInt8) : UInt8 → Bool := if c.toNat = 33 then opaqueB else nameB
def splitB : List UInt8 → Option (Nat × List UInt8 × List UInt8)
  | [] => none
  | c :: r => if kindOf c = 0 then none else if (Lib.cut r [58]).2.2 && allB (fitOf c) 50 (Lib.cut r [58]).1 && serverB (Lib.cut r [58]).2.1 then some (kindOf c, (Lib.cut r [58]).1, (Lib.cut r [58]).2.1) else none
def codeV (c : Int) : Value := .iface 41 (.int .i64 c)
def splitV : Option (Nat × List UInt8 × List UInt8) → Value
  | some (k, p, h) => .tuple #[.int .i64 k, .string (ofL p), .string (ofL h), .nilIface]
  | none => .tuple #[.int .i64 0, .string ⟨#[]⟩, .string ⟨#[]⟩, codeV 7]

theorem split_calls (w : World) (s : ByteArray) (hs : s.size < 4294967281) (hm : Mx w) :
    Calls Try.prog 20 #[.string s] w fun e w' => e = .returned (splitV (splitB s.data.toList)) ∧ Below w.heap.size w w' := by
  by_cases h0 : s.size = 0
  · have hse : s = ⟨#[]⟩ := ByteArray.ext (Array.size_eq_zero_iff.1 h0)
    subst hse
    clear h0 hm
    go_enter Try.func20, Try.ntmps20
    go_wp2_with fail
    refine bodyPost_ret (results_tmp4 rfl _ _ _) rfl ?_
    exact ⟨rfl, Below.refl _ _⟩
  · have hpos : 0 < s.size := by omega
    have hw0 := hm.pos
    have hemp : s.data.toList.isEmpty = false := by
      cases h : s.data.toList with
      | nil => have := size_list s; rw [h] at this; simp at this; omega
      | cons a b => rfl
    have hne : ¬ s.toList = [] := by
      rw [ByteArray.toList_eq]
      intro e
      rw [e] at hemp
      cases hemp
    have hne2 : s.toList.isEmpty = false := by rw [ByteArray.toList_eq]; exact hemp
    have HM := Lib.hid hm
    clear hemp h0 hm
    go_enter Try.func20, Try.ntmps20
    go_wp2_with fail
    refine (with_calls w ⟨#[46, 95, 61, 45, 47]⟩).mono ?_
    rintro e w2 ⟨rfl, rfl⟩
    have HW1 := Lib.hid (show Below w.heap.size w _ from ((Below.refl w.heap.size w).alloc (Nat.le_refl _) (.cells #[.string ⟨#[46, 95, 61, 45, 47]⟩] 9)).alloc (by simp) (.cells #[.func (.func 32) #[] #[]] 65))
    have hW2 : Mx ((w.alloc (.cells #[.string ⟨#[46, 95, 61, 45, 47]⟩] 9)).alloc (.cells #[.func (.func 32) #[] #[]] 65)) := HM.out.below HW1.out hw0
    have hq1 : (((w.alloc (.cells #[.string ⟨#[46, 95, 61, 45, 47]⟩] 9)).alloc (.cells #[.func (.func 32) #[] #[]] 65))).cell? ⟨w.heap.size + 1, 0, none⟩ = some (.func (.func 32) #[] #[]) := cell_new _ _ _ _ _ _ (by simp)
    have hq2 : (((w.alloc (.cells #[.string ⟨#[46, 95, 61, 45, 47]⟩] 9)).alloc (.cells #[.func (.func 32) #[] #[]] 65))).cell? ⟨w.heap.size, 0, none⟩ = some (.string ⟨#[46, 95, 61, 45, 47]⟩) := (cell_old _ _ _ (by simp)).trans (cell_new _ _ _ _ _ _ rfl)
    have hw2s : 0 < (((w.alloc (.cells #[.string ⟨#[46, 95, 61, 45, 47]⟩] 9)).alloc (.cells #[.func (.func 32) #[] #[]] 65))).heap.size := by simp
    have HWS := Lib.hid (show w.heap.size ≤ (((w.alloc (.cells #[.string ⟨#[46, 95, 61, 45, 47]⟩] 9)).alloc (.cells #[.func (.func 32) #[] #[]] 65))).heap.size by simp; omega)
    -- the text's rest
    have hrest : (s.extract 1 s.size).data.toList = s.data.toList.tail := by
      simp [ByteArray.data_extract]
      rw [← List.drop_one]
      rw [List.take_of_length_le]
      have := size_list s
      simp at this ⊢
    have hrs : (s.extract 1 s.size).size < 4294967281 := by
      rw [← size_list, hrest]
      have := size_list s
      simp
      omega
    obtain ⟨c, r, hcr⟩ : ∃ c r, s.data.toList = c :: r := by
      cases h : s.data.toList with
      | nil => have := size_list s; rw [h] at this; simp at this; omega
      | cons a b => exact ⟨a, b, rfl⟩
    have hc0 : s[0] = c := by
      have h1 : s.data.toList[0]? = some s[0] := by
        have h2 : 0 < s.data.size := hpos
        rw [Array.getElem?_toList, Array.getElem?_eq_getElem h2]
        rfl
      rw [hcr] at h1
      simpa using h1.symm
    rw [hcr] at hrest
    have hrest2 : (s.extract 1 s.size).data.toList = r := hrest
    obtain ⟨m, hm⟩ := hW2
    have hC := Try.strings_Cut (s.extract 1 s.size) ⟨#[58]⟩ m ((w.alloc (.cells #[.string ⟨#[46, 95, 61, 45, 47]⟩] 9)).alloc (.cells #[.func (.func 32) #[] #[]] 65)) hrs hm
    have e58 : (⟨#[58]⟩ : ByteArray).data.toList = [58] := rfl
    rw [e58, hrest2] at hC
    have hz := cut_sizes r [58]
    have hrl : r.length < 4294967281 := by rw [← hrest2, size_list]; exact hrs
    have HSP := Lib.hid (show splitB s.data.toList = if kindOf c = 0 then none else if (Lib.cut r [58]).2.2 && allB (fitOf c) 50 (Lib.cut r [58]).1 && serverB (Lib.cut r [58]).2.1 then some (kindOf c, (Lib.cut r [58]).1, (Lib.cut r [58]).2.1) else none by rw [hcr]; rfl)
    obtain ⟨part, hpart⟩ : ∃ part, (Lib.cut r [58]).1 = part := ⟨_, rfl⟩
    obtain ⟨host, hhost⟩ : ∃ host, (Lib.cut r [58]).2.1 = host := ⟨_, rfl⟩
    obtain ⟨two, htwo⟩ : ∃ two, (Lib.cut r [58]).2.2 = two := ⟨_, rfl⟩
    rw [hpart, hhost, htwo] at hC HSP
    rw [hpart, hhost] at hz
    have hsp1 : (ofL part).size ≤ 9223372036854775807 := by rw [← size_list, ofL_list]; omega
    have hsp2 : (ofL host).size < 4294967281 := by rw [← size_list, ofL_list]; omega
    have HALL1 := Lib.hid (fun (W : World) (hf : W.cell? ⟨w.heap.size + 1, 0, none⟩ = some (.func (.func 32) #[] #[])) (hm : W.cell? ⟨w.heap.size, 0, none⟩ = some (.string ⟨#[46, 95, 61, 45, 47]⟩)) =>
      all_calls W (ofL part) 50 40 #[] #[.pointer (some ⟨w.heap.size + 1, 0, none⟩), .pointer (some ⟨w.heap.size, 0, none⟩)] nameB hsp1 enter_with1 (fun c => with1_calls W _ _ ⟨#[46, 95, 61, 45, 47]⟩ c hf hm))
    have HALL2 := Lib.hid (fun (W : World) => all_calls W (ofL part) 50 33 #[] #[] opaqueB hsp1 enter_opaque (fun c => opaque_calls W c))
    have HSV := Lib.hid (fun (W : World) (h : Mx W) => server_calls W (ofL host) hsp2 h)
    have HC := Lib.hid hC
    have HQ1 := Lib.hid hq1
    have HQ2 := Lib.hid hq2
    have HMX := Lib.hid (show Mx ((w.alloc (.cells #[.string ⟨#[46, 95, 61, 45, 47]⟩] 9)).alloc (.cells #[.func (.func 32) #[] #[]] 65)) from ⟨m, hm⟩)
    have HWS2 := Lib.hid hw2s
    clear hq1 hq2 hm hC hpart hhost htwo hz hrl hsp1 hsp2 hcr hrest hrest2 hrs hw2s e58
    obtain ⟨cn, hcn⟩ : ∃ cn, c.toNat = cn := ⟨_, rfl⟩
    have HKO := Lib.hid (show kindOf c = if cn = 33 then 1 else if cn = 64 then 2 else if cn = 35 then 3 else 0 by unfold kindOf; rw [hcn])
    have HFO := Lib.hid (show fitOf c = if cn = 33 then opaqueB else nameB by unfold fitOf; rw [hcn])
    have e0 : s[0].toNat = cn := by rw [hc0, hcn]
    clear hc0 hcn
    generalize hw2 : ((w.alloc (.cells #[.string ⟨#[46, 95, 61, 45, 47]⟩] 9)).alloc (.cells #[.func (.func 32) #[] #[]] 65)) = w2 at *
    have HW2 := Lib.hid hw2
    clear hw2
    have hcase : cn = 33 ∨ cn = 64 ∨ cn = 35 ∨ (cn ≠ 33 ∧ cn ≠ 64 ∧ cn ≠ 35) := by omega
    rcases hcase with rfl | rfl | rfl | ⟨n1, n2, n3⟩
    case inr.inr.inr =>
      have HK := Lib.hid (show kindOf c = 0 by rw [HKO.out]; simp [n1, n2, n3])
      have e1 : ((s[0].toNat : Int) == 33) = false := by rw [e0]; exact beq_eq_false_iff_ne.2 (by omega)
      have e2 : ((s[0].toNat : Int) == 64) = false := by rw [e0]; exact beq_eq_false_iff_ne.2 (by omega)
      have e3 : ((s[0].toNat : Int) == 35) = false := by rw [e0]; exact beq_eq_false_iff_ne.2 (by omega)
      clear e0 n1 n2 n3
      go_wp2_with fail
      refine bodyPost_ret (results_tmp4 rfl _ _ _) rfl ?_
      refine ⟨?_, HW1.out⟩
      rw [HSP.out, if_pos HK.out]
      rfl
    · have HK := Lib.hid (show kindOf c = 1 by rw [HKO.out]; rfl)
      have HF := Lib.hid (show fitOf c = opaqueB by rw [HFO.out]; rfl)
      have HSP2 := Lib.hid (show splitB s.data.toList = if two && allB opaqueB 50 part && serverB host then some (1, part, host) else none by rw [HSP.out, HK.out, HF.out]; rfl)
      have e1 : s[0].toNat = 33 := e0
      clear e0 HK HF HKO HFO HSP
      go_wp2_with fail
      refine HC.out.mono ?_
      rintro e w3 ⟨rfl, n, rfl⟩
      have HB3 := Lib.hid (below_drewN' HW1.out n)
      have HA1 := HALL2.out (w2.drewN n)
      rw [ofL_list] at HA1
      have HA := Lib.hid HA1
      have hS := HSV.out (w2.drewN n) HMX.out
      rw [ofL_list] at hS
      have HS := Lib.hid hS
      clear HA1 hS HALL1 HALL2 HSV HC
      cases two
      · have HSP3 := Lib.hid HSP2.out
        go_wp2_with fail
        refine bodyPost_ret (results_tmp4 rfl _ _ _) rfl ?_
        exact ⟨by rw [HSP3.out]; rfl, HB3.out⟩
      · generalize allB opaqueB 50 part = ab at *
        generalize serverB host = sb at *
        cases ab
        · have HSP3 := Lib.hid HSP2.out
          go_wp2_with fail
          refine HA.out.mono ?_
          rintro e w4 ⟨rfl, rfl⟩
          go_wp2_with fail
          refine bodyPost_ret (results_tmp4 rfl _ _ _) rfl ?_
          exact ⟨by rw [HSP3.out]; rfl, HB3.out⟩
        · cases sb
          · have HSP3 := Lib.hid HSP2.out
            go_wp2_with fail
            refine HA.out.mono ?_
            rintro e w4 ⟨rfl, rfl⟩
            go_wp2_with fail
            refine HS.out.mono ?_
            rintro e w5 ⟨rfl, hb5⟩
            have HB5 := Lib.hid (HB3.out.trans (hb5.mono HB3.out.size))
            clear hb5
            go_wp2_with fail
            refine bodyPost_ret (results_tmp4 rfl _ _ _) rfl ?_
            exact ⟨by rw [HSP3.out]; rfl, HB5.out⟩
          · have HSP3 := Lib.hid HSP2.out
            go_wp2_with fail
            refine HA.out.mono ?_
            rintro e w4 ⟨rfl, rfl⟩
            go_wp2_with fail
            refine HS.out.mono ?_
            rintro e w5 ⟨rfl, hb5⟩
            have HB5 := Lib.hid (HB3.out.trans (hb5.mono HB3.out.size))
            clear hb5
            go_wp2_with fail
            refine bodyPost_ret (results_tmp4 rfl _ _ _) rfl ?_
            exact ⟨by rw [HSP3.out]; rfl, HB5.out⟩
    · have HK := Lib.hid (show kindOf c = 2 by rw [HKO.out]; rfl)
      have HF := Lib.hid (show fitOf c = nameB by rw [HFO.out]; rfl)
      have HSP2 := Lib.hid (show splitB s.data.toList = if two && allB nameB 50 part && serverB host then some (2, part, host) else none by rw [HSP.out, HK.out, HF.out]; rfl)
      have e1 : s[0].toNat = 64 := e0
      clear e0 HK HF HKO HFO HSP
      go_wp2_with fail
      refine HC.out.mono ?_
      rintro e w3 ⟨rfl, n, rfl⟩
      have HB3 := Lib.hid (below_drewN' HW1.out n)
      have HA1 := HALL1.out (w2.drewN n) HQ1.out HQ2.out
      rw [ofL_list] at HA1
      have HA := Lib.hid HA1
      have hS := HSV.out (w2.drewN n) HMX.out
      rw [ofL_list] at hS
      have HS := Lib.hid hS
      clear HA1 hS HALL1 HALL2 HSV HC
      cases two
      · have HSP3 := Lib.hid HSP2.out
        go_wp2_with fail
        refine bodyPost_ret (results_tmp4 rfl _ _ _) rfl ?_
        exact ⟨by rw [HSP3.out]; rfl, HB3.out⟩
      · generalize allB nameB 50 part = ab at *
        generalize serverB host = sb at *
        cases ab
        · have HSP3 := Lib.hid HSP2.out
          go_wp2_with fail
          refine HA.out.mono ?_
          rintro e w4 ⟨rfl, rfl⟩
          go_wp2_with fail
          refine bodyPost_ret (results_tmp4 rfl _ _ _) rfl ?_
          exact ⟨by rw [HSP3.out]; rfl, HB3.out⟩
        · cases sb
          · have HSP3 := Lib.hid HSP2.out
            go_wp2_with fail
            refine HA.out.mono ?_
            rintro e w4 ⟨rfl, rfl⟩
            go_wp2_with fail
            refine HS.out.mono ?_
            rintro e w5 ⟨rfl, hb5⟩
            have HB5 := Lib.hid (HB3.out.trans (hb5.mono HB3.out.size))
            clear hb5
            go_wp2_with fail
            refine bodyPost_ret (results_tmp4 rfl _ _ _) rfl ?_
            exact ⟨by rw [HSP3.out]; rfl, HB5.out⟩
          · have HSP3 := Lib.hid HSP2.out
            go_wp2_with fail
            refine HA.out.mono ?_
            rintro e w4 ⟨rfl, rfl⟩
            go_wp2_with fail
            refine HS.out.mono ?_
            rintro e w5 ⟨rfl, hb5⟩
            have HB5 := Lib.hid (HB3.out.trans (hb5.mono HB3.out.size))
            clear hb5
            go_wp2_with fail
            refine bodyPost_ret (results_tmp4 rfl _ _ _) rfl ?_
            exact ⟨by rw [HSP3.out]; rfl, HB5.out⟩
    · have HK := Lib.hid (show kindOf c = 3 by rw [HKO.out]; rfl)
      have HF := Lib.hid (show fitOf c = nameB by rw [HFO.out]; rfl)
      have HSP2 := Lib.hid (show splitB s.data.toList = if two && allB nameB 50 part && serverB host then some (3, part, host) else none by rw [HSP.out, HK.out, HF.out]; rfl)
      have e1 : s[0].toNat = 35 := e0
      clear e0 HK HF HKO HFO HSP
      go_wp2_with fail
      refine HC.out.mono ?_
      rintro e w3 ⟨rfl, n, rfl⟩
      have HB3 := Lib.hid (below_drewN' HW1.out n)
      have HA1 := HALL1.out (w2.drewN n) HQ1.out HQ2.out
      rw [ofL_list] at HA1
      have HA := Lib.hid HA1
      have hS := HSV.out (w2.drewN n) HMX.out
      rw [ofL_list] at hS
      have HS := Lib.hid hS
      clear HA1 hS HALL1 HALL2 HSV HC
      cases two
      · have HSP3 := Lib.hid HSP2.out
        go_wp2_with fail
        refine bodyPost_ret (results_tmp4 rfl _ _ _) rfl ?_
        exact ⟨by rw [HSP3.out]; rfl, HB3.out⟩
      · generalize allB nameB 50 part = ab at *
        generalize serverB host = sb at *
        cases ab
        · have HSP3 := Lib.hid HSP2.out
          go_wp2_with fail
          refine HA.out.mono ?_
          rintro e w4 ⟨rfl, rfl⟩
          go_wp2_with fail
          refine bodyPost_ret (results_tmp4 rfl _ _ _) rfl ?_
          exact ⟨by rw [HSP3.out]; rfl, HB3.out⟩
        · cases sb
          · have HSP3 := Lib.hid HSP2.out
            go_wp2_with fail
            refine HA.out.mono ?_
            rintro e w4 ⟨rfl, rfl⟩
            go_wp2_with fail
            refine HS.out.mono ?_
            rintro e w5 ⟨rfl, hb5⟩
            have HB5 := Lib.hid (HB3.out.trans (hb5.mono HB3.out.size))
            clear hb5
            go_wp2_with fail
            refine bodyPost_ret (results_tmp4 rfl _ _ _) rfl ?_
            exact ⟨by rw [HSP3.out]; rfl, HB5.out⟩
          · have HSP3 := Lib.hid HSP2.out
            go_wp2_with fail
            refine HA.out.mono ?_
            rintro e w4 ⟨rfl, rfl⟩
            go_wp2_with fail
            refine HS.out.mono ?_
            rintro e w5 ⟨rfl, hb5⟩
            have HB5 := Lib.hid (HB3.out.trans (hb5.mono HB3.out.size))
            clear hb5
            go_wp2_with fail
            refine bodyPost_ret (results_tmp4 rfl _ _ _) rfl ?_
            exact ⟨by rw [HSP3.out]; rfl, HB5.out⟩
end Go.Proofs.Ytmhhoaaoofopfaa
