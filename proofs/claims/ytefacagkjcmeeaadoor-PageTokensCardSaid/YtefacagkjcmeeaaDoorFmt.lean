import Derived.Test.YtefacagkjcmeeaaDoorB2
import Derived.Test.YtefacagkjcmeeaaDoorShelf
import Derived.Shelf.Strconv.Itoa1
import Derived.Shelf.Strconv.Itoa2
import Derived.Lib.Walk
import Derived.Lib.ItoaMem
import Derived.Lib.AppendIntMem
import Derived.WalkKit
import Derived.BigCall
import Derived.BigGuard
import Derived.KernelRfl
namespace Go.Proofs.YtefacagkjcmeeaaDoor
open Go.RowKit Go.Sort Go.Lib

theorem below_grow' (w : World) (k : Nat) (os : Array Obj) : Below w.heap.size w (grow (w.drewN k) os) := below_grow _ w (Nat.le_refl _) k os

set_option maxRecDepth 100000 in
theorem fmt_in (u : Nat) (hu64 : u < 18446744073709551616) (w : World) (htab : Lib.TabIs Tryd.prog w "internal/strconv.uint64pow10" .u64 Lib.pow10Tab) :
    Calls Tryd.prog 28 #[.int .u64 u, .int .i64 10] w fun e w' => e = .returned (.string ⟨(Lib.decDigits u).toArray⟩) ∧ Below w.heap.size w w' := by
  by_cases hs : u < 100
  · go_enter Tryd.func28, Tryd.ntmps28
    go_wp2_with (go_at_call 35; refine (Tryd.internal_strconv_small u hs _).mono ?_; rintro e w' ⟨rfl, rfl⟩)
    go_ret
    exact ⟨rfl, Below.refl _ _⟩
  · have hu1 : 1 ≤ u := by omega
    have hnd20 : Lib.nDigits u ≤ 20 := by have := Lib.numDigits_eq u hu1 hu64; split at this <;> omega
    have hal : Tryd.prog.arrayLen 91 = 24 := by kernel_rfl
    have hsl1 : ∀ W, (Instr.sliceAt 91 (.pointer (some ⟨w.heap.size, 0, none⟩)) none (some (.int .i64 (Lib.nDigits u : Int))) none).run Tryd.prog W = .ok (.slice (some ⟨w.heap.size, 0, none⟩) (Lib.nDigits u) 24) W := fun W => by
      rw [run_sliceAt_array_h W 91 ⟨w.heap.size, 0, none⟩ (by simp [Program.arrayLen, Program.elem, Tryd.underlying91]) .i64 (Lib.nDigits u : Int) (by omega) (by rw [hal]; omega)]
      go_simp
      try omega
    have hH0 := Lib.holds_zero0 w 91 (Lib.nDigits u) (by omega)
    have hfmt := Tryd.internal_strconv_formatBase10 w.heap.size 0 24 u (Array.replicate (Lib.nDigits u) 0) (w.alloc (.cells Lib.zeros24 91)) hH0 (by rw [Array.size_replicate]; exact Lib.lt_pow_nDigits u) hu64 (by rw [Array.size_replicate]; omega)
    rw [Array.size_replicate] at hfmt
    have HH0 := Lib.hid hH0
    have HT := Lib.hid htab
    have HF := Lib.hid hfmt
    clear hH0 hal htab hfmt
    go_enter Tryd.func28, Tryd.ntmps28
    go_wp2_with (go_at_call 36; refine (Tryd.internal_strconv_numDigits u hu1 hu64 _ (Lib.tabIs_alloc HT.out _)).mono ?_; rintro e w' ⟨rfl, rfl⟩)
    refine HF.out.mono ?_
    rintro e w' ⟨rfl, k, v', dk, rfl, hF⟩
    have hcv : (convert 45 9 (.slice (some ⟨w.heap.size, 0, none⟩) (Lib.nDigits u) 24)).run Tryd.prog ((putRow (fun (b : UInt8) => Value.int .u8 (b.toNat : Int)) (w.alloc (.cells Lib.zeros24 91)) w.heap.size 0 dk).drewN k) = .ok (.string ⟨(Lib.decDigits u).toArray⟩) ((putRow (fun (b : UInt8) => Value.int .u8 (b.toNat : Int)) (w.alloc (.cells Lib.zeros24 91)) w.heap.size 0 dk).drewN k) := by
      have h := run_convert_bytes_back (P := Tryd.prog) ((putRow (fun (b : UInt8) => Value.int .u8 (b.toNat : Int)) (w.alloc (.cells Lib.zeros24 91)) w.heap.size 0 dk).drewN k) 45 9 5 ⟨w.heap.size, 0, none⟩ 24 (Lib.decDigits u) Tryd.underlying45 Tryd.underlying5 Tryd.underlying9 (fun j hj => by
        rw [Lib.row_is_numeral hF j hj, Lib.add_plain, World.cell?_drewN]
        exact cell?_putRow (fun (b : UInt8) => Value.int .u8 (b.toNat : Int)) _ w.heap.size 0 _ dk HH0.out (by rw [hF.size, Array.size_replicate]) j (by rw [hF.size]; rw [Lib.decDigits_length] at hj; exact hj))
      rw [Lib.decDigits_length] at h
      exact h
    have HB := Lib.hid (Lib.fin_at w (.cells Lib.zeros24 91) dk k 0)
    clear hF HH0 HT HF
    go_wp2_with fail
    go_ret
    obtain ⟨os, eo⟩ := HB.out
    refine ⟨rfl, ?_⟩
    have hb := below_grow' w k os
    rw [← eo] at hb
    exact hb

theorem fmt_calls (u : Nat) (hu64 : u < 18446744073709551616) (w : World) (htab : Lib.TabIs Tryd.prog w "internal/strconv.uint64pow10" .u64 Lib.pow10Tab) :
    Calls Tryd.prog 18 #[.int .u64 u, .int .i64 10] w fun e w' => e = .returned (.string ⟨(Lib.decDigits u).toArray⟩) ∧ Below w.heap.size w w' := by
  have H := Lib.hid (fmt_in u hu64 w htab)
  clear htab
  go_enter Tryd.func18, Tryd.ntmps18
  go_wp2_with fail
  refine H.out.mono ?_
  rintro e w1 ⟨rfl, hb⟩
  have HB := Lib.hid hb
  clear H hb
  go_wp2_with fail
  go_ret
  exact ⟨rfl, HB.out⟩

theorem dec_len (u : Nat) (hu64 : u < 18446744073709551616) : (Lib.decDigits u).length ≤ 20 := by
  rw [Lib.decDigits_length]
  by_cases h : 1 ≤ u
  · have := Lib.numDigits_eq u h hu64; split at this <;> omega
  · have : u = 0 := by omega
    subst this
    rw [Lib.nDigits_small (by omega)]; omega

/-- A token's text. -/
def tokOf (u : Nat) : ByteArray := ⟨(116 :: Lib.decDigits u).toArray⟩
def decVal (l : List UInt8) : Nat := l.foldl (fun a c => a * 10 + (c.toNat - 48)) 0
theorem decVal_dec (u : Nat) : decVal (Lib.decDigits u) = u := by
  induction u using Nat.strongRecOn with
  | _ u ih =>
    rw [Lib.decDigits]
    split
    · rename_i h
      simp [decVal, UInt8.toNat_ofNat]
      omega
    · rename_i h
      have := ih (u / 10) (by omega)
      simp only [decVal, List.foldl_append] at this ⊢
      rw [this]
      simp [UInt8.toNat_ofNat]
      omega
theorem tok_inj {u v : Nat} (h : tokOf u = tokOf v) : u = v := by
  have h1 : (116 :: Lib.decDigits u).toArray = (116 :: Lib.decDigits v).toArray := by injection h
  have h2 : Lib.decDigits u = Lib.decDigits v := by simpa using h1
  rw [← decVal_dec u, h2, decVal_dec]

/-- The library's table of powers, as start-up lays it. -/
def Tab (w : World) : Prop := Lib.TabIs Tryd.prog w "internal/strconv.uint64pow10" .u64 Lib.pow10Tab
theorem tabAt : Tryd.prog.globalNamed "internal/strconv.uint64pow10" = some 0 := by kernel_rfl
theorem Tab.same {w w' : World} (h : Tab w) (hb : w'.heap[0]? = w.heap[0]?) : Tab w' := by
  unfold Tab Lib.TabIs World.var? at *
  simp only [tabAt, Option.bind_some] at h ⊢
  rw [hb]; exact h
theorem Tab.pos {w : World} (h : Tab w) : 0 < w.heap.size := by
  rcases Nat.eq_zero_or_pos w.heap.size with h0 | h0
  · unfold Tab Lib.TabIs World.var? at h
    simp only [tabAt, Option.bind_some] at h
    rw [Array.getElem?_eq_none (by omega)] at h
    cases h
  · exact h0
theorem Tab.fr {w w' : World} {S : Nat → Prop} (h : Tab w) (hf : Fr S w w') (hS : ¬ S 0) : Tab w' := h.same (hf.block 0 h.pos hS)
theorem Tab.below {w w' : World} (h : Tab w) (hf : Below w.heap.size w w') : Tab w' := h.same (hf.block 0 h.pos)

/-- A book at a time, without what is over, and, if it is full, without the first. -/
def BK.shed (b : BK) (now : Int) : BK := if ((b.clear now).l.length : Int) = (b.clear now).most then { b.clear now with l := (b.clear now).l.tail } else b.clear now
theorem shed_le (b : BK) (now : Int) : (b.shed now).l.length ≤ b.l.length := by
  have h1 : (b.clear now).l.length ≤ b.l.length := List.length_filter_le _ _
  unfold BK.shed
  split
  · simp; omega
  · exact h1

/-- What a Put leaves: the thing stands last, by a token that none had. -/
def PutPost (w : World) (g : Nat) (ro : Option Nat) (b2 : BK) (draw : Nat) (who what : ByteArray) (x : Value) (one : x.oneCell' = true) (e : Ending) (w' : World) (R : Option Addr → Nat → Option Nat → BK → Prop) : Prop :=
  ∃ (u : Nat) (A' : Option Addr) (cap' : Nat) (ro' : Option Nat), e = .returned (.string (tokOf u)) ∧ u < 4294967296 ∧ (∀ k ∈ b2.l, k.tok ≠ tokOf u) ∧ ((∀ k ∈ b2.l, k.tok ≠ tokOf draw) → u = draw) ∧
    R A' cap' ro' { b2 with l := b2.l ++ [⟨tokOf u, who, what, b2.now, x, one⟩] } ∧ (ro' = ro ∨ ∃ r, ro' = some r ∧ w.heap.size ≤ r) ∧ Fr (fun k => k = g ∨ ro = some k) w w'

theorem bytes_inj {a b : ByteArray} (h : a.toList = b.toList) : a = b := by
  rw [ByteArray.toList_eq, ByteArray.toList_eq] at h
  cases a; cases b
  simp at h
  rw [h]
theorem tokB_true {u : Nat} {k : Kp} (h : tokB (tokOf u) k = true) : k.tok = tokOf u := bytes_inj (by simpa [tokB] using h)
theorem tokB_false {u : Nat} {k : Kp} (h : tokB (tokOf u) k = false) : k.tok ≠ tokOf u := by
  intro e
  simp [tokB, e] at h

theorem length_le_of_nodup {α : Type} [BEq α] [LawfulBEq α] : ∀ (xs ys : List α), xs.Nodup → (∀ x ∈ xs, x ∈ ys) → xs.length ≤ ys.length
  | [], _, _, _ => by simp
  | x :: xs, ys, hn, hs => by
    have hx : x ∈ ys := hs x (by simp)
    have hn' := List.nodup_cons.1 hn
    have := length_le_of_nodup xs (ys.erase x) hn'.2 (fun z hz => (List.mem_erase_of_ne (by rintro rfl; exact hn'.1 hz)).2 (hs z (by simp [hz])))
    rw [List.length_erase_of_mem hx] at this
    have : 0 < ys.length := List.length_pos_of_mem hx
    simp
    omega
/-- Of numbers that follow one another no more are taken than there are things. -/
theorem taken_le {l : List Kp} {draw j : Nat} (hj : j ≤ 4294967296) (h : ∀ i, i < j → ∃ k ∈ l, k.tok = tokOf ((draw + i) % 4294967296)) : j ≤ l.length := by
  have := length_le_of_nodup ((List.range j).map fun i => (draw + i) % 4294967296) (l.map fun k => decVal (k.tok.data.toList.drop 1)) ?_ ?_
  · simpa using this
  · rw [List.nodup_iff_pairwise_ne, List.pairwise_map]
    refine List.Pairwise.imp_of_mem ?_ (List.pairwise_lt_range (n := j))
    intro a b ha hb hab
    simp at ha hb
    omega
  · intro x hx
    simp only [List.mem_map, List.mem_range] at hx
    obtain ⟨i, hi, rfl⟩ := hx
    obtain ⟨k, hk, he⟩ := h i hi
    refine List.mem_map.2 ⟨k, hk, ?_⟩
    rw [he]
    simp [tokOf, decVal_dec]

theorem Bk_own {w : World} {E r cap base : Nat} {l : List Kp} (h : OwnRow w E r cap l) (hc : cap ≤ maxLen) (hb : base ≤ r) : w.ownsRow base E 5 (.slice (some ⟨r, 0, none⟩) l.length cap) l.length (flat l) := by
  obtain ⟨cur, h1, h2, h3, h4⟩ := h
  refine ⟨flat_length l, .inr ⟨r, cap, cur, rfl, hb, h1, h3, hc, h2, ?_⟩⟩
  apply List.ext_getElem?
  intro j
  by_cases hj : j < l.length * 5
  · rw [List.getElem?_take_of_lt hj]
    have hjl : j < (flat l).length := by rw [flat_length]; exact hj
    have := flat_of_rowAt h4 j _ (List.getElem?_eq_getElem hjl)
    simp only [World.cell?, h1] at this
    rw [List.getElem?_eq_getElem hjl]
    simpa using this
  · rw [List.getElem?_eq_none (by simp; omega), List.getElem?_eq_none (by rw [flat_length]; omega)]
theorem own_Bk {w : World} {E g cap base n : Nat} {l : List Kp} (h : w.ownsRow base E 5 (.slice (some ⟨g, 0, none⟩) n cap) n (flat l)) (hn : n = l.length) : OwnRow w E g cap l ∧ cap ≤ maxLen := by
  subst hn
  obtain ⟨h0, ⟨h1, _⟩ | ⟨g', cap', cur, h1, h2, h3, h4, h5, h6, h7⟩⟩ := h
  · cases h1
  · injection h1 with e1 e2 e3
    injection e1 with e1
    injection e1 with e1 e4
    subst e1; subst e3
    refine ⟨⟨cur, h3, h6, h4, rowAt_of_flat fun j u hu => ?_⟩, h5⟩
    rw [← h7] at hu
    have hj : j < (cur.toList.take (l.length * 5)).length := (List.getElem?_eq_some_iff.1 hu).1
    rw [List.length_take] at hj
    rw [List.getElem?_take_of_lt (by omega)] at hu
    simp only [World.cell?, h3]
    simpa using hu

theorem one_cells {x : Value} (h : x.oneCell' = true) : x.cells = #[x] := by cases x <;> first | rfl | (simp [Value.oneCell'] at h)
end Go.Proofs.YtefacagkjcmeeaaDoor
