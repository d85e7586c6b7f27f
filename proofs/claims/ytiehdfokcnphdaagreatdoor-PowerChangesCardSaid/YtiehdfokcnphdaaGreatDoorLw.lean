/- Changes of levels: who may make one, and what it bounds. Plain law, no walk. -/
import Derived.Test.YtiehdfokcnphdaaGreatDoorPy
set_option linter.unusedVariables false
namespace Go.Proofs.YtiehdfokcnphdaaGreatDoor
open Go.RowKit

def userN (l : List Nm) (d : Int) (name : ByteArray) : Int := (findN l name).getD d
/-- Whether a name's change is denied to one of level p. -/
def deniedO (by_ : ByteArray) (p : Int) (users : Bool) (name : ByteArray) (o1 o2 : Option Int) : Bool :=
  !(decide (o1 = o2)) && ((match o1 with | some w => decide (w > p) || (users && !(name.toList == by_.toList) && decide (w = p)) | none => false) || (match o2 with | some i => decide (i > p) | none => false))
def deniedN (by_ : ByteArray) (p : Int) (users : Bool) (from_ to_ : List Nm) (name : ByteArray) : Bool := deniedO by_ p users name (findN from_ name) (findN to_ name)
def numN (a b p : Int) : Bool := !(decide (a = b)) && decide (max a b > p)
/-- Nothing of a change is denied. -/
structure ChOk (by_ : ByteArray) (x y : L9) (ex ux ey uy : List Nm) : Prop where
  n : ∀ a b, (a, b) ∈ [(x.n0, y.n0), (x.n1, y.n1), (x.n2, y.n2), (x.n3, y.n3), (x.n4, y.n4), (x.n5, y.n5), (x.n6, y.n6)] → numN a b (userN ux x.n6 by_) = false
  e : ∀ z ∈ ex ++ ey, deniedN by_ (userN ux x.n6 by_) false ex ey z.name = false
  u : ∀ z ∈ ux ++ uy, deniedN by_ (userN ux x.n6 by_) true ux uy z.name = false
theorem findN_mem {l : List Nm} {name : ByteArray} {i : Int} (h : findN l name = some i) : ∃ z ∈ l, z.name = name ∧ z.level = i := by
  unfold findN at h
  obtain ⟨z, hz, rfl⟩ := Option.map_eq_some_iff.1 h
  refine ⟨z, List.mem_of_find?_eq_some hz, ?_, rfl⟩
  have := List.find?_some hz
  unfold nameIs at this
  exact bytes_inj (by simpa using this)
/-- Names rise. -/
def RiseN (l : List Nm) : Prop := l.Pairwise fun x y => Op.bytesLess x.name.toList y.name.toList = true
theorem less_irr (a : List UInt8) : Op.bytesLess a a = false := by
  induction a with
  | nil => rfl
  | cons x l ih => unfold Op.bytesLess; simp [ih]
theorem rise_find {l : List Nm} (h : RiseN l) {z : Nm} (hz : z ∈ l) : findN l z.name = some z.level := by
  unfold findN
  have : l.find? (nameIs z.name) = some z := by
    induction l with
    | nil => cases hz
    | cons y l ih =>
      obtain ⟨h1, h2⟩ := List.pairwise_cons.1 h
      rw [List.find?_cons]
      rcases List.mem_cons.1 hz with rfl | hz
      · simp [nameIs]
      · have hn : nameIs z.name y = false := by
          cases he : nameIs z.name y with
          | false => rfl
          | true =>
            unfold nameIs at he
            have he : y.name.toList = z.name.toList := by simpa using he
            have := h1 z hz
            rw [he, less_irr] at this
            cases this
        rw [hn]
        exact ih h2 hz
  rw [this]
  rfl
/-- Nobody comes above who makes the change. -/
theorem bound_name {by_ name : ByteArray} {x y : L9} {ex ux ey uy : List Nm} (h : ChOk by_ x y ex ux ey uy) (h1 : x.n6 ≤ userN ux x.n6 by_) (h2 : userN uy y.n6 name > userN ux x.n6 by_) : userN uy y.n6 name = userN ux x.n6 name := by
  generalize hp : userN ux x.n6 by_ = p at *
  cases hf : findN uy name with
  | some i =>
    have hu : userN uy y.n6 name = i := by unfold userN; rw [hf]; rfl
    obtain ⟨z, hz, hzn, _⟩ := findN_mem hf
    have hd := h.u z (List.mem_append_right _ hz)
    rw [hzn, hp] at hd
    unfold deniedN deniedO at hd
    rw [hf] at hd
    by_cases he : findN ux name = some i
    · unfold userN; rw [hf, he]; rfl
    · rw [hu] at h2
      simp [he] at hd
      omega
  | none =>
    have hu : userN uy y.n6 name = y.n6 := by unfold userN; rw [hf]; rfl
    have hd := h.n x.n6 y.n6 (by simp)
    rw [hp] at hd
    unfold numN at hd
    simp at hd
    by_cases he : x.n6 = y.n6
    · omega
    · have := hd he
      omega
theorem bound_ban {by_ : ByteArray} {x y : L9} {ex ux ey uy : List Nm} (h : ChOk by_ x y ex ux ey uy) (h1 : y.n0 > userN ux x.n6 by_) : y.n0 = x.n0 := by
  have hd := h.n x.n0 y.n0 (by simp)
  unfold numN at hd
  simp at hd
  by_cases he : x.n0 = y.n0
  · exact he.symm
  · have := hd he
    omega
theorem bound_user {by_ : ByteArray} {x y : L9} {ex ux ey uy : List Nm} (h : ChOk by_ x y ex ux ey uy) (hr : RiseN ux) {z : Nm} (hz : z ∈ ux) (h1 : ¬ z.name.toList = by_.toList) (h2 : z.level ≥ userN ux x.n6 by_) : userN uy y.n6 z.name = z.level := by
  have hd := h.u z (List.mem_append_left _ hz)
  unfold deniedN deniedO at hd
  rw [rise_find hr hz] at hd
  by_cases he : some z.level = findN uy z.name
  · unfold userN; rw [← he]; rfl
  · simp [he, h1] at hd
    omega
end Go.Proofs.YtiehdfokcnphdaaGreatDoor
