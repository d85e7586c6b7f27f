/- ident, going on: all of a text's bytes, a server's name, a name's kind. -/
import Derived.Test.YtmhhoaaoofopfaaId
namespace Go.Proofs.Ytmhhoaaoofopfaa
open Go.RowKit

theorem with_calls (w : World) (more : ByteArray) : Calls Try.prog 31 #[.string more, .func (.func 32) #[] #[]] w
    fun e w' => e = .returned (.func (.func 40) #[] #[.pointer (some ⟨w.heap.size + 1, 0, none⟩), .pointer (some ⟨w.heap.size, 0, none⟩)]) ∧ w' = (w.alloc (.cells #[.string more] 9)).alloc (.cells #[.func (.func 32) #[] #[]] 65) := by
  go_enter Try.func31, Try.ntmps31
  go_wp2_with fail
  go_ret
  exact ⟨rfl, rfl⟩

/-- all: of a class that reads no memory but what was there. -/
theorem all_calls (w : World) (s : ByteArray) (most : Nat) (f : Nat) (first captured : Array Value) (p : UInt8 → Bool) (hs : s.size ≤ 9223372036854775807)
    (hcf : ∀ args W, Sem.run Try.prog (callFunc f args) W = .ok (.enter f args) W)
    (hp : ∀ c : UInt8, Calls Try.prog f (first.push (.int .u8 c.toNat) ++ captured) w fun e w' => e = .returned (.bool (p c)) ∧ w' = w) :
    Calls Try.prog 27 #[.string s, .int .i64 most, .func (.func f) first captured] w fun e w' => e = .returned (.bool (allB p most s.data.toList)) ∧ w' = w := by
  have HP := Lib.hid hp
  clear hp
  have hsz : s.data.toList.length = s.size := Array.length_toList
  have HSZ := Lib.hid hsz
  clear hsz
  go_enter Try.func27, Try.ntmps27
  go_wp2_with fail
  go_loopw [10] (fun i wr => ∃ k : Nat, k ≤ s.size ∧ i = .int .i64 k ∧ wr = w ∧ (s.data.toList.take k).all p = true) (fun i _ => s.size - (intOf i).toNat)
  case atStart => exact ⟨0, by omega, rfl, rfl, rfl⟩
  case round =>
    obtain ⟨k, hk, rfl, rfl, hall⟩ := hrel
    have HALL := Lib.hid hall
    clear hall
    by_cases hlt : k < s.size
    · go_wp2_with fail
      have hg : s.data.toList[k]? = some s[k] := by
        have h2 : k < s.data.size := hlt
        rw [Array.getElem?_toList, Array.getElem?_eq_getElem h2]
        rfl
      have hstep : (s.data.toList.take (k + 1)).all p = ((s.data.toList.take k).all p && p s[k]) := by
        rw [List.take_add_one, hg]; simp
      have HS := Lib.hid hstep
      have HG := Lib.hid hg
      clear hg hstep
      have HPK := HP.out s[k]
      generalize s[k] = ck at *
      refine HPK.mono ?_
      rintro e w1 ⟨rfl, rfl⟩
      have HP2 := Lib.hid HPK
      clear HPK
      by_cases hpk : p ck = true
      · have HPP := Lib.hid hpk
        rw [hpk]
        clear hpk
        go_wp2_with fail
        exact ⟨⟨k + 1, by omega, by go_num, (by first | rfl | trivial), by rw [HS.out, HALL.out, HPP.out]; rfl⟩, by simp [intOf]; omega⟩
      · have hpf : p ck = false := by simpa using hpk
        have HPP := Lib.hid hpf
        rw [hpf]
        clear hpk hpf
        go_wp2_with fail
        go_ret
        refine ⟨?_, rfl⟩
        have : s.data.toList.all p = false := by
          rw [List.all_eq_false]
          exact ⟨ck, List.mem_of_getElem? HG.out, by rw [HPP.out]; simp⟩
        simp [allB, this]
    · obtain rfl : k = s.size := by omega
      have hwhole : s.data.toList.all p = true := by
        have := HALL.out
        rw [List.take_of_length_le (by rw [HSZ.out]; exact Nat.le_refl _)] at this
        exact this
      have HWH := Lib.hid hwhole
      clear hwhole
      by_cases h0 : s.size = 0
      · have hse : s = ⟨#[]⟩ := by
          apply ByteArray.ext
          exact Array.size_eq_zero_iff.1 h0
        subst hse
        clear h0
        go_wp2_with fail
        go_ret
        exact ⟨by simp [allB], rfl⟩
      · have hemp : s.data.toList.isEmpty = false := by
          cases h : s.data.toList with
          | nil => have := HSZ.out; rw [h] at this; simp at this; omega
          | cons a b => rfl
        have HE := Lib.hid hemp
        have hne : ¬ s.toList = [] := by
          rw [ByteArray.toList_eq]
          intro e
          rw [e] at hemp
          cases hemp
        have hne2 : s.toList.isEmpty = false := by rw [ByteArray.toList_eq]; exact hemp
        clear hemp
        go_wp2_with fail
        go_ret
        refine ⟨?_, rfl⟩
        simp [allB, HWH.out, HE.out, HSZ.out]
end Go.Proofs.Ytmhhoaaoofopfaa
