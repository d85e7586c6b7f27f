import Derived.Test.YtefacagkjcmeeaaDoorIT5
import Derived.Test.YtefacagkjcmeeaaDoorIs
namespace Go.Proofs.YtefacagkjcmeeaaDoor.I
open Go.RowKit

def code (c : Int) : Value := .iface 35 (.int .i64 c)
/-- What a book tells of a token. -/
def getRes (l : List Kp) (tok who what : ByteArray) : Value × Value :=
  match l.find? (tokB tok) with
  | none => (.int .i64 0, code 17)
  | some k => if k.who.toList == who.toList then (if k.what.toList == what.toList then (k.x, .nilIface) else (.int .i64 0, code 18)) else (.int .i64 0, code 17)
theorem find_none {p : Kp → Bool} {l : List Kp} (h : ∀ q ∈ l, p q = false) : l.find? p = none := by
  rw [List.find?_eq_none]
  intro q hq
  simp [h q hq]
theorem find_some {p : Kp → Bool} {l : List Kp} {m : Nat} {q : Kp} (h2 : l[m]? = some q) (h4 : p q = true) (h5 : ∀ q ∈ l.take m, p q = false) : l.find? p = some q := by
  induction l generalizing m with
  | nil => simp at h2
  | cons a l ih =>
    cases m with
    | zero => simp at h2; subst h2; simp [h4]
    | succ m =>
      have ha : p a = false := h5 a (by simp)
      simp only [List.find?_cons, ha]
      exact ih (by simpa using h2) (fun q hq => h5 q (by simp [hq]))

set_option maxRecDepth 100000 in
set_option maxHeartbeats 800000 in
theorem get_calls (w : World) (g : Nat) (A : Option Addr) (cap : Nat) (ro : Option Nat) (b : BK) (tok who what : ByteArray) (now : Int) (hl : b.l.length ≤ 60) (h : Bk w g A cap ro b) :
   Calls Tryd.prog 9 #[.pointer (some ⟨g, 0, none⟩), .string tok, .int .i64 now, .string who, .string what] w
     fun e w' => e = .returned (.tuple #[(getRes (b.clear now).l tok who what).1, (getRes (b.clear now).l tok who what).2]) ∧ Bk w' g A cap ro (b.clear now) ∧ Fr (fun k => k = g ∨ ro = some k) w w' := by
  have HC := Lib.hid (clear_book w g A cap ro b now hl h)
  have HL := Lib.hid hl
  clear h hl
  go_enter Tryd.func9, Tryd.ntmps9
  go_wp2_with fail
  refine HC.out.mono ?_
  rintro e w1 ⟨rfl, hB, hF⟩
  have hlen : (b.clear now).l.length ≤ 60 := Nat.le_trans (List.length_filter_le _ _) HL.out
  have HFind := Lib.hid (find_calls w1 g A cap ro (b.clear now) tok hlen hB)
  have HB := Lib.hid hB
  have HF := Lib.hid hF
  clear HC hB hF
  generalize hbb : b.clear now = b1 at *
  have HBB := Lib.hid hbb
  clear hbb
  go_wp2_with fail
  refine HFind.out.mono ?_
  rintro e w2 ⟨rfl, hb2⟩
  have HB2 := Lib.hid (HB.out.below hb2)
  have HF2 := Lib.hid (HF.out.trans (Fr.of_below hb2))
  clear HFind HB HF hb2
  rcases idxOf_cases (tokB tok) b1.l with ⟨h1, h2⟩ | ⟨m, q, h1, h2, h3, h4, h5⟩
  · have HR := Lib.hid (show getRes b1.l tok who what = (.int .i64 0, code 17) by unfold getRes; rw [find_none h2])
    rw [h1]
    clear h1 h2
    go_wp2_with fail
    go_ret2
    rw [HBB.out]
    refine ⟨by rw [HR.out]; rfl, HB2.out, HF2.out⟩
  · have HFI := Lib.hid (find_some h2 h4 h5)
    have hbb := HB2.out
    have hh := hbb.1
    obtain ⟨r, rfl, hor⟩ : ∃ r, A = some ⟨r, 0, none⟩ ∧ OwnRow w2 57 r cap b1.l := by
      rcases hbb.2.1 with ⟨_, hn, _⟩ | ⟨r, h1, _, _, h4⟩
      · rw [hn] at h3; simp at h3
      · exact ⟨r, h1, h4⟩
    have k3 : w2.cell? ⟨g, 3, none⟩ = some (.slice (some ⟨r, 0, none⟩) b1.l.length cap) := by simp [World.cell?, hh]
    obtain ⟨c0, c1, c2, c3, c4⟩ := hor.choose_spec.2.2.2 m q h2
    rw [h1]
    clear h1 h2 h4 h5 hor hbb hh
    by_cases hw : (q.who.toList == who.toList) = true
    · by_cases hwt : (q.what.toList == what.toList) = true
      · have HR := Lib.hid (show getRes b1.l tok who what = (q.x, .nilIface) by unfold getRes; rw [HFI.out]; simp only [hw, hwt]; rfl)
        go_wp2_with fail
        go_ret2
        rw [HBB.out]
        refine ⟨by rw [HR.out]; rfl, HB2.out, HF2.out⟩
      · have hwt : (q.what.toList == what.toList) = false := by simpa using hwt
        have HR := Lib.hid (show getRes b1.l tok who what = (.int .i64 0, code 18) by unfold getRes; rw [HFI.out]; simp only [hw, hwt]; rfl)
        go_wp2_with fail
        go_ret2
        rw [HBB.out]
        refine ⟨by rw [HR.out]; rfl, HB2.out, HF2.out⟩
    · have hw : (q.who.toList == who.toList) = false := by simpa using hw
      have HR := Lib.hid (show getRes b1.l tok who what = (.int .i64 0, code 17) by unfold getRes; rw [HFI.out]; simp only [hw]; rfl)
      go_wp2_with fail
      go_ret2
      rw [HBB.out]
      refine ⟨by rw [HR.out]; rfl, HB2.out, HF2.out⟩
end Go.Proofs.YtefacagkjcmeeaaDoor.I
