/- The document's ident (the reference's texts): the same plain law as ident's. -/
import Derived.Test.YtgnoaeldmpbjmaaGreatDoorOf
set_option linter.unusedVariables false
namespace Go.Proofs.YtgnoaeldmpbjmaaGreatDoor
open Go.RowKit

def rinB (l : List UInt8) (c : UInt8) : Bool := l.any fun x => x == c
theorem byte_at (l : ByteArray) (k : Nat) (h : k < l.size) : l.data.toList[k]? = some l[k] := by
  have h2 : k < l.data.size := h
  rw [Array.getElem?_toList, Array.getElem?_eq_getElem h2]
  rfl
theorem take_next (l : ByteArray) (k : Nat) (h : k < l.size) : l.data.toList.take (k + 1) = l.data.toList.take k ++ [l[k]] := by
  rw [List.take_add_one, byte_at l k h]; simp
theorem u8_beq (a b : UInt8) : ((a.toNat : Int) == (b.toNat : Int)) = (a == b) := by
  rw [Bool.eq_iff_iff]
  simp only [beq_iff_eq]
  constructor
  · intro h
    exact UInt8.toNat_inj.1 (by omega)
  · rintro rfl; rfl
theorem rin_calls (w : World) (l : ByteArray) (c : UInt8) (hl : l.size ≤ 1000000) :
    Calls Tryz.prog 83 #[.string l, .int .u8 c.toNat] w fun e w' => e = .returned (.bool (rinB l.data.toList c)) ∧ w' = w := by
  have HL := Lib.hid (size_list l)
  go_enter Tryz.func83, Tryz.ntmps83
  go_wp2_with fail
  go_loopw [8] (fun i wr => ∃ k : Nat, k ≤ l.size ∧ i = .int .i64 k ∧ wr = w ∧ rinB (l.data.toList.take k) c = false) (fun i _ => l.size - (intOf i).toNat)
  case atStart => exact ⟨0, by omega, rfl, rfl, rfl⟩
  case round =>
    obtain ⟨k, hk, rfl, rfl, hno⟩ := hrel
    have HNO := Lib.hid hno
    clear hno
    by_cases hlt : k < l.size
    · have hb := u8_beq l[k] c
      have HT := Lib.hid (take_next l k hlt)
      have HM := Lib.hid (List.mem_of_getElem? (byte_at l k hlt))
      cases hc : (l[k] == c) with
      | true =>
        rw [hc] at hb
        have HC := Lib.hid hc
        clear hc
        go_wp2_with fail
        go_ret
        refine ⟨?_, rfl⟩
        have : rinB l.data.toList c = true := List.any_eq_true.2 ⟨l[k], HM.out, HC.out⟩
        rw [this]
        rfl
      | false =>
        rw [hc] at hb
        have HC := Lib.hid hc
        clear hc
        go_wp2_with fail
        exact ⟨⟨k + 1, by omega, by go_num, (by first | rfl | trivial), by rw [HT.out]; unfold rinB at HNO ⊢; rw [List.any_append, HNO.out]; simp [HC.out]⟩, by simp [intOf]; omega⟩
    · obtain rfl : k = l.size := by omega
      go_wp2_with fail
      go_ret
      refine ⟨?_, rfl⟩
      have := HNO.out
      rw [List.take_of_length_le (by rw [HL.out]; exact Nat.le_refl _)] at this
      rw [this]
      rfl

def rallB (l : List UInt8) (least most : Nat) (s : List UInt8) : Bool := (decide (least ≤ s.length) && decide (s.length ≤ most)) && s.all (rinB l)
theorem rall_calls (w : World) (s l : ByteArray) (least most : Nat) (hs : s.size ≤ 9223372036854775807) (hl : l.size ≤ 1000000) (h1 : least < 1000) (h2 : most < 1000) :
    Calls Tryz.prog 56 #[.string s, .int .i64 least, .int .i64 most, .string l] w fun e w' => e = .returned (.bool (rallB l.data.toList least most s.data.toList)) ∧ w' = w := by
  have HI := Lib.hid (fun c => rin_calls w l c hl)
  have HL := Lib.hid (size_list s)
  have HR := Lib.hid (show rallB l.data.toList least most s.data.toList = ((decide (least ≤ s.data.toList.length) && decide (s.data.toList.length ≤ most)) && s.data.toList.all (rinB l.data.toList)) from rfl)
  by_cases hle : least ≤ s.size
  · by_cases hmo : s.size ≤ most
    · have HD := Lib.hid (show (decide (least ≤ s.size) && decide (s.size ≤ most)) = true by simp [hle, hmo])
      have d1 : decide (s.size < least) = false := by simp [hle]
      have d2 : decide (most < s.size) = false := by simp [hmo]
      clear hle hmo
      go_enter Tryz.func56, Tryz.ntmps56
      go_wp2_with fail
      go_loopw [22] (fun i wr => ∃ k : Nat, k ≤ s.size ∧ i = .int .i64 k ∧ wr = w ∧ (s.data.toList.take k).all (rinB l.data.toList) = true) (fun i _ => s.size - (intOf i).toNat)
      case atStart => exact ⟨0, by omega, rfl, rfl, rfl⟩
      case round =>
        obtain ⟨k, hk, rfl, rfl, hall⟩ := hrel
        have HALL := Lib.hid hall
        clear hall
        by_cases hlt : k < s.size
        · have HT := Lib.hid (take_next s k hlt)
          have HM := Lib.hid (List.mem_of_getElem? (byte_at s k hlt))
          go_wp2_with fail
          have HPK := HI.out s[k]
          generalize s[k] = ck at *
          refine HPK.mono ?_
          rintro e w1 ⟨rfl, rfl⟩
          clear HPK
          cases hp : rinB l.data.toList ck with
          | true =>
            have HP := Lib.hid hp
            clear hp
            go_wp2_with fail
            exact ⟨⟨k + 1, by omega, by go_num, (by first | rfl | trivial), by rw [HT.out, List.all_append, HALL.out]; simp [HP.out]⟩, by simp [intOf]; omega⟩
          | false =>
            have HP := Lib.hid hp
            clear hp
            go_wp2_with fail
            go_ret
            refine ⟨?_, rfl⟩
            have : s.data.toList.all (rinB l.data.toList) = false := List.all_eq_false.2 ⟨ck, HM.out, by rw [HP.out]; simp⟩
            rw [HR.out, this]
            simp
        · obtain rfl : k = s.size := by omega
          go_wp2_with fail
          go_ret
          refine ⟨?_, rfl⟩
          have := HALL.out
          rw [List.take_of_length_le (by rw [HL.out]; exact Nat.le_refl _)] at this
          rw [HR.out, this, HL.out, HD.out]
          rfl
    · go_enter Tryz.func56, Tryz.ntmps56
      go_wp2_with fail
      go_ret
      refine ⟨?_, rfl⟩
      rw [HR.out, HL.out]
      simp [hmo]
  · go_enter Tryz.func56, Tryz.ntmps56
    go_wp2_with fail
    go_ret
    refine ⟨?_, rfl⟩
    rw [HR.out, HL.out]
    simp [hle]

/-- Ahead of the first colon, and behind it. -/
def colonB : List UInt8 → List UInt8 × List UInt8 × Bool
  | [] => ([], [], false)
  | c :: r => if c == 58 then ([], r, true) else (c :: (colonB r).1, (colonB r).2.1, (colonB r).2.2)
theorem colonB_none {l : List UInt8} (h : ∀ x ∈ l, (x == 58) = false) : colonB l = (l, [], false) := by
  induction l with
  | nil => rfl
  | cons c r ih =>
    unfold colonB
    rw [h c (by simp)]
    simp only [Bool.false_eq_true, if_false]
    rw [ih (fun x hx => h x (by simp [hx]))]
theorem colonB_at {a b : List UInt8} {c : UInt8} (h : ∀ x ∈ a, (x == 58) = false) (hc : (c == 58) = true) : colonB (a ++ c :: b) = (a, b, true) := by
  induction a with
  | nil => unfold colonB; simp [hc]
  | cons x r ih =>
    rw [List.cons_append]
    unfold colonB
    rw [h x (by simp)]
    simp only [Bool.false_eq_true, if_false]
    rw [ih (fun x hx => h x (by simp [hx]))]
theorem extract_front (s : ByteArray) (k : Nat) : s.extract 0 k = ofL (s.data.toList.take k) := by
  apply ByteArray.ext
  apply Array.ext'
  simp [ByteArray.data_extract, ofL]
theorem extract_back (s : ByteArray) (k : Nat) : s.extract k s.size = ofL (s.data.toList.drop k) := by
  apply ByteArray.ext
  apply Array.ext'
  have h : s.data.size = s.size := rfl
  simp only [ByteArray.data_extract, ofL, Array.toList_extract, List.extract_eq_take_drop]
  rw [List.take_of_length_le (by rw [List.length_drop, size_list]; exact Nat.le_refl _)]
theorem rcolon_calls (w : World) (s : ByteArray) (hs : s.size ≤ 9223372036854775807) :
    Calls Tryz.prog 55 #[.string s] w fun e w' => e = .returned (.tuple #[.string (ofL (colonB s.data.toList).1), .string (ofL (colonB s.data.toList).2.1), .bool (colonB s.data.toList).2.2]) ∧ Below w.heap.size w w' := by
  have HL := Lib.hid (size_list s)
  go_enter Tryz.func55, Tryz.ntmps55
  go_wp2_with fail
  go_loopw [8] (fun i wr => ∃ k : Nat, k ≤ s.size ∧ i = .int .i64 k ∧ wr = w ∧ ∀ x ∈ s.data.toList.take k, (x == 58) = false) (fun i _ => s.size - (intOf i).toNat)
  case atStart => exact ⟨0, by omega, rfl, rfl, by simp⟩
  case round =>
    obtain ⟨k, hk, rfl, rfl, hno⟩ := hrel
    have HNO := Lib.hid hno
    clear hno
    by_cases hlt : k < s.size
    · have hb : ((s[k].toNat : Int) == 58) = (s[k] == 58) := u8_beq s[k] 58
      have HT := Lib.hid (take_next s k hlt)
      have HB := Lib.hid (byte_at s k hlt)
      cases hc : (s[k] == 58) with
      | true =>
        rw [hc] at hb
        have HC := Lib.hid hc
        clear hc
        go_wp2_with fail
        go_quiet (fail)
        go_wp2_with fail
        refine bodyPost_ret (results_tmp3 rfl _ _ _) rfl ?_
        refine ⟨?_, below_drewN' (Below.refl _ _) _⟩
        have hl : s.data.toList = s.data.toList.take k ++ s[k] :: s.data.toList.drop (k + 1) := by
          have := (List.take_append_drop (k + 1) s.data.toList).symm
          rw [HT.out] at this
          simpa using this
        have h3 := colonB_at (b := s.data.toList.drop (k + 1)) HNO.out HC.out
        rw [← hl] at h3
        rw [h3, ← extract_front, ← extract_back]
        rfl
      | false =>
        rw [hc] at hb
        have HC := Lib.hid hc
        clear hc
        go_wp2_with fail
        exact ⟨⟨k + 1, by omega, by go_num, (by first | rfl | trivial), by
          rw [HT.out]; intro x hx
          rcases List.mem_append.1 hx with h | h
          · exact HNO.out x h
          · simp at h; rw [h]; exact HC.out⟩, by simp [intOf]; omega⟩
    · obtain rfl : k = s.size := by omega
      go_wp2_with fail
      refine bodyPost_ret (results_tmp3 rfl _ _ _) rfl ?_
      refine ⟨?_, Below.refl _ _⟩
      have := HNO.out
      rw [List.take_of_length_le (by rw [HL.out]; exact Nat.le_refl _)] at this
      rw [colonB_none this]
      rfl
end Go.Proofs.YtgnoaeldmpbjmaaGreatDoor
