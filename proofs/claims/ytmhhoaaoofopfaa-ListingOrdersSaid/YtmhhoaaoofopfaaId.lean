/- ident: a name's kind: what the functions compute, whatever the text. -/
import Derived.Test.YtmhhoaaoofopfaaProg
import Derived.Test.YtmhhoaaoofopfaaG
import Derived.Test.YtmhhoaaoofopfaaShelf
import Derived.WalkKit
import Derived.Deep.QuietTactic
import Derived.BigQuiet
import Derived.Tactics
import Derived.KernelRfl
import Derived.Outline
import Derived.LoopTactic
import Derived.Deep.LoopGhost
namespace Go.Proofs.Ytmhhoaaoofopfaa
open Go.RowKit

/-- The variable that the search reads is a number. -/
def Mx (w : World) : Prop := ∃ m, w.cell? ⟨0, 0, none⟩ = some (.int .i64 m)
theorem Mx.pos {w : World} (h : Mx w) : 0 < w.heap.size := by
  obtain ⟨m, h⟩ := h
  exact World.block_lt_of_cell? w _ h
theorem Mx.below {B : Nat} {w w' : World} (h : Mx w) (hb : Below B w w') (hB : 0 < B) : Mx w' := by
  obtain ⟨m, h⟩ := h
  exact ⟨m, (hb.cell (p := ⟨0, 0, none⟩) hB).trans h⟩

def digitB (c : UInt8) : Bool := decide (48 ≤ c.toNat) && decide (c.toNat ≤ 57)
def plainB (c : UInt8) : Bool := (decide (97 ≤ c.toNat) && decide (c.toNat ≤ 122)) || digitB c
def opaqueB (c : UInt8) : Bool := plainB c || (decide (65 ≤ c.toNat) && decide (c.toNat ≤ 90)) || (c.toNat == 95) || (c.toNat == 45) || (c.toNat == 46)
def withB (more : List UInt8) (p : UInt8 → Bool) (c : UInt8) : Bool := p c || decide (0 ≤ Lib.indexByte more c)
def allB (p : UInt8 → Bool) (most : Nat) (s : List UInt8) : Bool := s.all p && (!s.isEmpty && decide (s.length ≤ most))

theorem digit_calls (w : World) (c : UInt8) : Calls Try.prog 29 #[.int .u8 c.toNat] w fun e w' => e = .returned (.bool (digitB c)) ∧ w' = w := by
  have hc : c.toNat < 256 := c.toNat_lt
  by_cases h1 : 48 ≤ c.toNat
  · by_cases h2 : c.toNat ≤ 57
    · go_enter Try.func29, Try.ntmps29
      go_wp2_with fail
      go_ret
      exact ⟨by simp [digitB, h1, h2]; try omega, rfl⟩
    · go_enter Try.func29, Try.ntmps29
      go_wp2_with fail
      go_ret
      exact ⟨by simp [digitB, h1, h2]; try omega, rfl⟩
  · go_enter Try.func29, Try.ntmps29
    go_wp2_with fail
    go_ret
    exact ⟨by simp [digitB, h1], rfl⟩
theorem plain_calls (w : World) (c : UInt8) : Calls Try.prog 32 #[.int .u8 c.toNat] w fun e w' => e = .returned (.bool (plainB c)) ∧ w' = w := by
  have hc : c.toNat < 256 := c.toNat_lt
  by_cases h : 97 ≤ c.toNat ∧ c.toNat ≤ 122
  · obtain ⟨h1, h2⟩ := h
    go_enter Try.func32, Try.ntmps32
    go_wp2_with fail
    go_ret
    exact ⟨by simp [plainB, h1, h2], rfl⟩
  · have h' : plainB c = digitB c := by
      unfold plainB
      rw [show (decide (97 ≤ c.toNat) && decide (c.toNat ≤ 122)) = false by simp; omega]
      simp
    by_cases h1 : 97 ≤ c.toNat
    · have h2 : ¬ c.toNat ≤ 122 := fun e => h ⟨h1, e⟩
      go_enter Try.func32, Try.ntmps32
      go_wp2_with fail
      refine (digit_calls w c).mono ?_
      rintro e w1 ⟨rfl, rfl⟩
      go_wp2_with fail
      go_ret
      exact ⟨by simp [h', show ¬ ((c.toNat : Int) ≤ 122) by omega], rfl⟩
    · go_enter Try.func32, Try.ntmps32
      go_wp2_with fail
      refine (digit_calls w c).mono ?_
      rintro e w1 ⟨rfl, rfl⟩
      go_wp2_with fail
      go_ret
      exact ⟨by simp [h'], rfl⟩
theorem opaque_calls (w : World) (c : UInt8) : Calls Try.prog 33 #[.int .u8 c.toNat] w fun e w' => e = .returned (.bool (opaqueB c)) ∧ w' = w := by
  have hc : c.toNat < 256 := c.toNat_lt
  have HP := Lib.hid (plain_calls w c)
  obtain ⟨n, hn⟩ : ∃ n, c.toNat = n := ⟨_, rfl⟩
  have HN := Lib.hid hn
  have hcase : plainB c = true ∨ (plainB c = false ∧ 65 ≤ n ∧ n ≤ 90) ∨ (plainB c = false ∧ n = 95) ∨ (plainB c = false ∧ n = 45) ∨ (plainB c = false ∧ n = 46) ∨ (plainB c = false ∧ 65 ≤ n ∧ 90 < n ∧ n ≠ 95) ∨ (plainB c = false ∧ n < 65 ∧ n ≠ 45 ∧ n ≠ 46) := by
    cases plainB c <;> simp
    omega
  have hres : opaqueB c = (plainB c || (decide (65 ≤ n) && decide (n ≤ 90)) || (n == 95) || (n == 45) || (n == 46)) := by unfold opaqueB; rw [hn]
  rw [hn] at hc
  have HR := Lib.hid hres
  rw [hn] at HP
  rw [hn]
  clear hn hres
  rcases hcase with hp | ⟨hp, h1, h2⟩ | ⟨hp, h1⟩ | ⟨hp, h1⟩ | ⟨hp, h1⟩ | ⟨hp, h1, h2, h3⟩ | ⟨hp, h1, h2, h3⟩
  all_goals
    rw [hp] at HP
    have HRR := Lib.hid (show opaqueB c = (_ || _ || _ || _ || _) by rw [HR.out, hp])
  · go_enter Try.func33, Try.ntmps33
    go_wp2_with fail
    refine HP.out.mono ?_
    rintro e w1 ⟨rfl, rfl⟩
    go_wp2_with fail
    go_ret
    exact ⟨by rw [HRR.out]; simp, rfl⟩
  · go_enter Try.func33, Try.ntmps33
    go_wp2_with fail
    refine HP.out.mono ?_
    rintro e w1 ⟨rfl, rfl⟩
    go_wp2_with fail
    go_ret
    exact ⟨by rw [HRR.out]; simp [h1, h2]; try omega, rfl⟩
  · subst h1
    go_enter Try.func33, Try.ntmps33
    go_wp2_with fail
    refine HP.out.mono ?_
    rintro e w1 ⟨rfl, rfl⟩
    go_wp2_with fail
    go_ret
    exact ⟨by rw [HRR.out]; simp, rfl⟩
  · subst h1
    go_enter Try.func33, Try.ntmps33
    go_wp2_with fail
    refine HP.out.mono ?_
    rintro e w1 ⟨rfl, rfl⟩
    go_wp2_with fail
    go_ret
    exact ⟨by rw [HRR.out]; simp, rfl⟩
  · subst h1
    go_enter Try.func33, Try.ntmps33
    go_wp2_with fail
    refine HP.out.mono ?_
    rintro e w1 ⟨rfl, rfl⟩
    go_wp2_with fail
    go_ret
    exact ⟨by rw [HRR.out]; simp, rfl⟩
  · have e1 : ((n : Int) == 95) = false := beq_eq_false_iff_ne.2 (by omega)
    have e2 : ((n : Int) == 45) = false := beq_eq_false_iff_ne.2 (by omega)
    have e3 : ((n : Int) == 46) = false := beq_eq_false_iff_ne.2 (by omega)
    go_enter Try.func33, Try.ntmps33
    go_wp2_with fail
    refine HP.out.mono ?_
    rintro e w1 ⟨rfl, rfl⟩
    go_wp2_with fail
    go_ret
    exact ⟨by rw [HRR.out]; simp [show ¬ ((n : Int) ≤ 90) by omega, show ¬ n ≤ 90 by omega, h3, show n ≠ 45 by omega, show n ≠ 46 by omega], rfl⟩
  · have e1 : ((n : Int) == 95) = false := beq_eq_false_iff_ne.2 (by omega)
    have e2 : ((n : Int) == 45) = false := beq_eq_false_iff_ne.2 (by omega)
    have e3 : ((n : Int) == 46) = false := beq_eq_false_iff_ne.2 (by omega)
    go_enter Try.func33, Try.ntmps33
    go_wp2_with fail
    refine HP.out.mono ?_
    rintro e w1 ⟨rfl, rfl⟩
    go_wp2_with fail
    go_ret
    exact ⟨by rw [HRR.out]; simp; try omega, rfl⟩

theorem enter_plain : ∀ args W, Sem.run Try.prog (callFunc 32 args) W = .ok (.enter 32 args) W := fun _ _ => by kernel_rfl
theorem enter_opaque : ∀ args W, Sem.run Try.prog (callFunc 33 args) W = .ok (.enter 33 args) W := fun _ _ => by kernel_rfl
theorem enter_digit : ∀ args W, Sem.run Try.prog (callFunc 29 args) W = .ok (.enter 29 args) W := fun _ _ => by kernel_rfl
theorem enter_with1 : ∀ args W, Sem.run Try.prog (callFunc 40 args) W = .ok (.enter 40 args) W := fun _ _ => by kernel_rfl

/-- with$1: of a class and more bytes. -/
theorem with1_calls (w : World) (gf gm : Nat) (more : ByteArray) (c : UInt8) (hf : w.cell? ⟨gf, 0, none⟩ = some (.func (.func 32) #[] #[])) (hm : w.cell? ⟨gm, 0, none⟩ = some (.string more)) :
    Calls Try.prog 40 #[.int .u8 c.toNat, .pointer (some ⟨gf, 0, none⟩), .pointer (some ⟨gm, 0, none⟩)] w fun e w' => e = .returned (.bool (withB more.data.toList plainB c)) ∧ w' = w := by
  have hc : c.toNat < 256 := c.toNat_lt
  have HP := Lib.hid (plain_calls w c)
  have hep := enter_plain
  have HI := Lib.hid (Try.strings_IndexByte more (c.toNat : Nat) w)
  obtain ⟨ix, hix⟩ : ∃ ix, Lib.indexByte more.data.toList c = ix := ⟨_, rfl⟩
  have hu : ((c.toNat : Int)).toNat.toUInt8 = c := by simp
  rw [hu, hix] at HI
  have HW := Lib.hid (show withB more.data.toList plainB c = (plainB c || decide (0 ≤ ix)) by unfold withB; rw [hix])
  clear hix hu
  cases hp : plainB c
  · rw [hp] at HP HW
    have HW2 := Lib.hid HW.out
    go_enter Try.func40, Try.ntmps40
    go_wp2_with fail
    refine HP.out.mono ?_
    rintro e w1 ⟨rfl, rfl⟩
    go_wp2_with fail
    refine HI.out.mono ?_
    rintro e w1 ⟨rfl, rfl⟩
    go_wp2_with fail
    go_ret
    exact ⟨by rw [HW2.out]; simp, rfl⟩
  · rw [hp] at HP HW
    have HW2 := Lib.hid HW.out
    go_enter Try.func40, Try.ntmps40
    go_wp2_with fail
    refine HP.out.mono ?_
    rintro e w1 ⟨rfl, rfl⟩
    go_wp2_with fail
    go_ret
    exact ⟨by rw [HW2.out]; simp, rfl⟩
end Go.Proofs.Ytmhhoaaoofopfaa
