/- The order of texts, byte by byte. No program is named. -/
import Derived.Test.YtmhhoaaoofopfaaG
import Derived.Sort.Statements
import Derived.Sort.LotA
import Derived.ChangeMaps
set_option linter.unusedVariables false
namespace Go.Proofs.Ytmhhoaaoofopfaa
open Go.RowKit Go.Sort

theorem before_ltStr : ∀ a b : List UInt8, bytesBefore a b = Sort.ltStr a b
  | [], [] => by simp [bytesBefore, Sort.ltStr]
  | [], _ :: _ => by simp [bytesBefore, Sort.ltStr]
  | _ :: _, [] => by simp [bytesBefore, Sort.ltStr]
  | a :: la, b :: lb => by
    have ih := before_ltStr la lb
    unfold Sort.ltStr at ih ⊢
    unfold bytesBefore
    rw [Bool.eq_iff_iff] at ih ⊢
    simp only [Bool.or_eq_true, Bool.and_eq_true, decide_eq_true_eq, beq_iff_eq] at ih ⊢
    rw [List.cons_lt_cons_iff, ih]
theorem less_ltStr (a b : ByteArray) : Op.bytesLess a.toList b.toList = Sort.ltStr a.toList b.toList := by
  rw [← before_ltStr]
  generalize a.toList = a
  generalize b.toList = b
  induction a generalizing b with
  | nil => cases b <;> simp [Op.bytesLess, bytesBefore]
  | cons x l ih => cases b with
    | nil => simp [Op.bytesLess, bytesBefore]
    | cons y r => simp [Op.bytesLess, bytesBefore, ih]
theorem less_irr (a : List UInt8) : Op.bytesLess a a = false := by
  induction a with
  | nil => rfl
  | cons x l ih => unfold Op.bytesLess; simp [ih]
theorem less_total {a b : ByteArray} (h1 : Op.bytesLess a.toList b.toList = false) (h2 : (a.toList == b.toList) = false) : Op.bytesLess b.toList a.toList = true := by
  rw [less_ltStr, ← before_ltStr] at *
  have hne : (Lit.string a.toList) ≠ Lit.string b.toList := fun e => by
    injection e with e
    rw [e] at h2
    simp at h2
  rcases ChangeMaps.before_total ⟨_, rfl⟩ ⟨_, rfl⟩ hne with h | h
  · rw [show (Lit.string a.toList).before (Lit.string b.toList) = bytesBefore a.toList b.toList from rfl, h1] at h
    cases h
  · exact h
theorem less_trans {a b c : ByteArray} (h1 : Op.bytesLess a.toList b.toList = true) (h2 : Op.bytesLess b.toList c.toList = true) : Op.bytesLess a.toList c.toList = true := by
  rw [less_ltStr] at *
  exact Sort.swo_ltStr.trans _ _ _ h1 h2
theorem less_anti {a b : ByteArray} (h1 : Op.bytesLess a.toList b.toList = false) (h2 : Op.bytesLess b.toList a.toList = false) : a = b := by
  cases he : (a.toList == b.toList) with
  | true => exact bytes_inj (by simpa using he)
  | false => rw [less_total h1 he] at h2; cases h2
theorem less_nsym {a b : ByteArray} (h : Op.bytesLess a.toList b.toList = true) : Op.bytesLess b.toList a.toList = false := by
  cases h2 : Op.bytesLess b.toList a.toList with
  | false => rfl
  | true => have := less_trans h h2; rw [less_irr] at this; cases this
end Go.Proofs.Ytmhhoaaoofopfaa
