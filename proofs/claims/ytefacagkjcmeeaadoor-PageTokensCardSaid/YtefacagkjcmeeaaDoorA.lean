import Derived.Test.YtefacagkjcmeeaaDoorIT6
namespace Go.Proofs.YtefacagkjcmeeaaDoor
open Go.RowKit I

theorem tok_small (u : Nat) (h : u < 10) : tokOf u = ⟨#[116, UInt8.ofNat (48 + u)]⟩ := by
  unfold tokOf
  rw [Lib.decDigits_one h]

theorem ge_of {w w1 : World} {ro ro1 : Option Nat} (hs : w.heap.size ≤ w1.heap.size) (h0 : ∀ r, ro = some r → w.heap.size ≤ r) (h : ro1 = ro ∨ ∃ r, ro1 = some r ∧ w1.heap.size ≤ r) : ∀ r, ro1 = some r → w.heap.size ≤ r := by
  intro r hr
  rcases h with h | ⟨r', h, h'⟩
  · exact h0 r (h ▸ hr)
  · rw [h] at hr; injection hr with hr; omega
theorem fr_below {w w1 w2 : World} {g : Nat} {ro : Option Nat} (hb : Below w.heap.size w w1) (hF : Fr (fun k => k = g ∨ ro = some k) w1 w2) (hg : w.heap.size ≤ g) (h0 : ∀ r, ro = some r → w.heap.size ≤ r) : Below w.heap.size w w2 :=
  hb.trans (hF.to_below hb.size (by
    rintro k hk (e | e)
    · omega
    · have := h0 k e; omega))

def sA : ByteArray := ⟨#[97]⟩
def sQ : ByteArray := ⟨#[113]⟩
def bk0 : BK := ⟨1, 5, -9223372036854775808, []⟩
theorem shed0 : bk0.shed 0 = ⟨1, 5, 0, []⟩ := rfl
def k7 : Kp := ⟨tokOf 7, sA, sQ, 0, .int .i64 1, rfl⟩
def k8 : Kp := ⟨tokOf 8, sA, sQ, 1, .int .i64 2, rfl⟩
theorem overB_eq {life now : Int} {k : Kp} (h1 : 0 ≤ life) (h2 : life < 18446744073709551616) (h3 : 0 ≤ now - k.born) (h4 : now - k.born < 18446744073709551616) : overB life now k = decide (life ≤ now - k.born) := by
  unfold overB
  rw [IntKind.wrap_u64, IntKind.wrap_u64, IntKind.wrap_u64, IntKind.wrap_u64]
  congr 1
  apply propext
  omega
theorem clear_one {most life now : Int} {k : Kp} {n : Int} (hn : max now n = n) (h1 : 0 ≤ life) (h2 : life < 18446744073709551616) (h3 : 0 ≤ n - k.born) (h4 : n - k.born < life) : BK.clear ⟨most, life, now, [k]⟩ n = ⟨most, life, n, [k]⟩ := by
  unfold BK.clear keep
  simp only [hn]
  congr 1
  rw [List.filter_cons, overB_eq h1 h2 h3 (by omega)]
  simp
  omega
theorem shed1 : BK.shed ⟨1, 5, 0, [k7]⟩ 1 = ⟨1, 5, 1, []⟩ := by
  unfold BK.shed
  rw [clear_one (by decide) (by omega) (by omega) (by simp [k7]) (by simp [k7])]
  rfl
theorem clear5 : BK.clear ⟨1, 5, 1, [k8]⟩ 5 = ⟨1, 5, 5, [k8]⟩ := clear_one (by decide) (by omega) (by omega) (by simp [k8]) (by simp [k8])
theorem clear55 : BK.clear ⟨1, 5, 5, [k8]⟩ 5 = ⟨1, 5, 5, [k8]⟩ := clear_one (by decide) (by omega) (by omega) (by simp [k8]) (by simp [k8])
theorem get8 : getRes [k8] ⟨#[116, 56]⟩ sA sQ = (.int .i64 2, .nilIface) := by
  simp [getRes, k8, tokB, tok_small, sA, sQ]
theorem get7 : getRes [k8] ⟨#[116, 55]⟩ sA sQ = (.int .i64 0, code 17) := by
  simp [getRes, k8, tokB, tok_small, sA, sQ]

set_option maxRecDepth 100000 in
theorem awake_calls (w : World) (htab : Tab w) : Calls Tryd.prog 6 #[] w fun e w' => e = .returned (.bool true) ∧ Below w.heap.size w w' := by
  have HT := Lib.hid htab
  have hpos := htab.pos
  have HN := Lib.hid (new_calls w 1 5 (by omega) (by omega) (by omega) (by omega))
  clear htab
  go_enter Tryd.func6, Tryd.ntmps6
  go_wp2_with fail
  refine HN.out.mono ?_
  rintro e w1 ⟨rfl, hw1⟩
  have HB0 := Lib.hid (show Bk w1 w.heap.size none 0 none bk0 by rw [hw1]; exact ⟨heap_alloc_new _ _, .inl ⟨rfl, rfl, rfl, rfl⟩, by simp⟩)
  have HW0 := Lib.hid (show Below w.heap.size w w1 by rw [hw1]; exact (Below.refl _ _).alloc (Nat.le_refl _) _)
  clear hw1 HN
  go_wp2_with fail
  refine (put_calls w1 w.heap.size none 0 none bk0 7 0 sA sQ 1 (by decide) (by decide) HB0.out (by omega) (HT.out.below HW0.out) (by omega) (by simp)).mono ?_
  rintro e w2 ⟨u, A1, c1, r1, rfl, hu, hfr, hdr, hB, hro, hF⟩
  rw [shed0] at hfr hdr hB
  obtain rfl := hdr (by simp)
  have HG1 := Lib.hid (ge_of HW0.out.size (ro := none) (by simp) hro)
  have HW1 := Lib.hid (fr_below HW0.out hF (Nat.le_refl _) (by simp))
  have HB1 := Lib.hid (show Bk w2 w.heap.size A1 c1 r1 ⟨1, 5, 0, [k7]⟩ from hB)
  have HT1 := Lib.hid (HT.out.below HW1.out)
  have HR1 := Lib.hid (show r1 ≠ some 0 from fun e => by have := HG1.out 0 e; omega)
  rw [tok_small 7 (by omega)]
  clear hu hfr hdr hB hro hF HB0 HW0
  go_wp2_with fail
  refine (put_calls w2 w.heap.size A1 c1 r1 ⟨1, 5, 0, [k7]⟩ 8 1 sA sQ 2 (by simp) (by simp) HB1.out (by omega) HT1.out (by omega) HR1.out).mono ?_
  rintro e w3 ⟨u, A2, c2, r2, rfl, hu, hfr, hdr, hB, hro, hF⟩
  rw [shed1] at hfr hdr hB
  obtain rfl := hdr (by simp)
  have HG2 := Lib.hid (ge_of HW1.out.size HG1.out hro)
  have HW2 := Lib.hid (fr_below HW1.out hF (Nat.le_refl _) HG1.out)
  have HB2 := Lib.hid (show Bk w3 w.heap.size A2 c2 r2 ⟨1, 5, 1, [k8]⟩ from hB)
  rw [tok_small 8 (by omega)]
  clear hu hfr hdr hB hro hF HB1 HW1 HT1 HR1 HG1
  go_wp2_with fail
  refine (get_calls w3 w.heap.size A2 c2 r2 ⟨1, 5, 1, [k8]⟩ ⟨#[116, 56]⟩ sA sQ 5 (by simp) HB2.out).mono ?_
  rintro e w4 ⟨rfl, hB, hF⟩
  rw [clear5] at hB
  rw [clear5, show (BK.mk 1 5 5 [k8]).l = [k8] from rfl, get8]
  have HW3 := Lib.hid (fr_below HW2.out hF (Nat.le_refl _) HG2.out)
  have HB3 := Lib.hid hB
  clear hB hF HB2 HW2
  go_wp2_with fail
  refine (get_calls w4 w.heap.size A2 c2 r2 ⟨1, 5, 5, [k8]⟩ ⟨#[116, 55]⟩ sA sQ 5 (by simp) HB3.out).mono ?_
  rintro e w5 ⟨rfl, hB, hF⟩
  rw [clear55] at hB
  rw [clear55, show (BK.mk 1 5 5 [k8]).l = [k8] from rfl, get7]
  have HW4 := Lib.hid (fr_below HW3.out hF (Nat.le_refl _) HG2.out)
  have HB4 := Lib.hid hB
  clear hB hF HB3 HW3
  go_wp2_with fail
  refine (is_code 17 17 w5).mono ?_
  rintro e w6 ⟨rfl, rfl⟩
  go_wp2_with fail
  refine (tokens_calls w5 w.heap.size A2 c2 r2 ⟨1, 5, 5, [k8]⟩ (by simp) HB4.out).mono ?_
  rintro e w6 ⟨v, rfl, hown, hb⟩
  obtain ⟨gg, cc, rfl, _, _⟩ := hown.form (by simp)
  have HW5 := Lib.hid (HW4.out.trans (hb.mono HW4.out.size))
  clear hown hb HB4 HW4
  go_wp2_with fail
  go_ret
  exact ⟨rfl, HW5.out⟩
end Go.Proofs.YtefacagkjcmeeaaDoor
