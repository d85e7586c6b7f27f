/- A table and the document's: an alias is given, in one. -/
import Derived.Test.YtgnoaeldmpbjmaaGreatDoorDo
set_option linter.unusedVariables false
namespace Go.Proofs.YtgnoaeldmpbjmaaGreatDoor
open Go.RowKit Go.Maps Go.Sort

theorem tadd_calls (w : World) (g b : Nat) (server : ByteArray) (most : Int) (l : List En) (k room by_ : ByteArray) (ht : Tab w g b server most l) (hk : k.size < 4294967281) (hr : room.size < 4294967281) (hb : by_.size < 4294967281) (hm : Mx w) (hn : l.length < maxLen) :
    Calls Tryz.prog 24 #[.pointer (some ⟨g, 0, none⟩), .string k, .string room, .string by_] w fun e w' => ∃ v, e = .returned v ∧ ErrV w' (fun i => w.heap.size ≤ i) v (addErr server most l k room by_) ∧ Tab w' g b server most (addL server most l k room by_) ∧ Fr (fun i => i = b) w w' := by
  cases h1 : isB 3 k.data.toList with
  | false =>
    have he : addErr server most l k room by_ = some ([sAlias], 7) := by simp [addErr, h1]
    rw [addL, he]
    exact (add_alias w g b server most l k room by_ ht hk hr hb hm h1).mono fun e w' ⟨v, h, h2, h3, h4⟩ => ⟨v, h, h2, h3, Fr.of_below h4⟩
  | true =>
  cases h2 : isB 1 room.data.toList with
  | false =>
    have he : addErr server most l k room by_ = some ([sRoom], 7) := by simp [addErr, h1, h2]
    rw [addL, he]
    exact (add_room w g b server most l k room by_ ht hk hr hb hm h1 h2).mono fun e w' ⟨v, h, h2, h3, h4⟩ => ⟨v, h, h2, h3, Fr.of_below h4⟩
  | true =>
  cases h3 : isB 2 by_.data.toList with
  | false =>
    have he : addErr server most l k room by_ = some ([sUser], 7) := by simp [addErr, h1, h2, h3]
    rw [addL, he]
    exact (add_user w g b server most l k room by_ ht hk hr hb hm h1 h2 h3).mono fun e w' ⟨v, h, h2, h3, h4⟩ => ⟨v, h, h2, h3, Fr.of_below h4⟩
  | true =>
  cases h4 : ((ofL (ofB k.data.toList)).toList == server.toList) with
  | false =>
    have he : addErr server most l k room by_ = some ([sAlias], 22) := by simp only [addErr, h1, h2, h3, h4]; simp
    rw [addL, he]
    exact (add_server w g b server most l k room by_ ht hk hr hb hm h1 h2 h3 h4).mono fun e w' ⟨v, h, h2, h3, h4⟩ => ⟨v, h, h2, h3, Fr.of_below h4⟩
  | true =>
  cases h5 : getE l k with
  | some x =>
    have he : addErr server most l k room by_ = some ([], 15) := by simp only [addErr, h1, h2, h3, h4, h5]; simp
    rw [addL, he]
    exact (add_there w g b server most l k room by_ ht hk hr hb hm h1 h2 h3 h4 x h5).mono fun e w' ⟨h, h3, h4⟩ => ⟨_, h, ErrV.code _ _ 15, h3, Fr.of_below h4⟩
  | none =>
  by_cases h6 : most ≤ l.length
  · have he : addErr server most l k room by_ = some ([], 14) := by simp only [addErr, h1, h2, h3, h4, h5]; simp [h6]
    rw [addL, he]
    exact (add_full w g b server most l k room by_ ht hk hr hb hm h1 h2 h3 h4 h5 h6).mono fun e w' ⟨h, h3, h4⟩ => ⟨_, h, ErrV.code _ _ 14, h3, Fr.of_below h4⟩
  · have he : addErr server most l k room by_ = none := by simp only [addErr, h1, h2, h3, h4, h5]; simp [h6]
    rw [addL, he]
    exact (add_ok w g b server most l k room by_ ht hk hr hb hm h1 h2 h3 h4 h5 (by omega) hn).mono fun e w' ⟨h, h3, h4⟩ => ⟨_, h, errV_nil _ _, h3, h4⟩
theorem radd_calls (w : World) (server : ByteArray) (most : Int) (s : Sl) (P : Nat → Prop) (l : List En) (k room by_ : ByteArray) (hk : k.size < 4294967281) (hro : room.size < 4294967281) (hby : by_.size < 4294967281)
    (hr : RowOf w P 105 3 s (rowsE l)) (hn : l.length < 1000000) (hl : RiseE l) :
    Calls Tryz.prog 34 #[.agg (tCells server most s), .string k, .string room, .string by_] w fun e w' => ∃ s' : Sl, e = .returned (.tuple #[.agg (tCells server most s'), erV (addErr server most l k room by_)]) ∧ RowOf w' (fun g => P g ∨ w.heap.size ≤ g) 105 3 s' (rowsE (addL server most l k room by_)) ∧ Below w.heap.size w w' := by
  have keep : ∀ w', Below w.heap.size w w' → RowOf w' (fun g => P g ∨ w.heap.size ≤ g) 105 3 s (rowsE l) := fun w' h => (hr.same h.size (fun g hg _ => h.block g hg)).mono fun g _ h => .inl h
  have a1 : k.size ≤ 9223372036854775807 := by omega
  have a2 : room.size ≤ 9223372036854775807 := by omega
  have a3 : by_.size ≤ 9223372036854775807 := by omega
  cases h1 : isB 3 k.data.toList with
  | false =>
    have he : addErr server most l k room by_ = some ([sAlias], 7) := by simp [addErr, h1]
    rw [addL, he]
    exact (radd_alias w server most s k room by_ a1 a2 a3 h1).mono fun e w' h => ⟨s, h.1, keep w' h.2, h.2⟩
  | true =>
  cases h2 : isB 1 room.data.toList with
  | false =>
    have he : addErr server most l k room by_ = some ([sRoom], 7) := by simp [addErr, h1, h2]
    rw [addL, he]
    exact (radd_room w server most s k room by_ a1 a2 a3 h1 h2).mono fun e w' h => ⟨s, h.1, keep w' h.2, h.2⟩
  | true =>
  cases h3 : isB 2 by_.data.toList with
  | false =>
    have he : addErr server most l k room by_ = some ([sUser], 7) := by simp [addErr, h1, h2, h3]
    rw [addL, he]
    exact (radd_user w server most s k room by_ a1 a2 a3 h1 h2 h3).mono fun e w' h => ⟨s, h.1, keep w' h.2, h.2⟩
  | true =>
  cases h4 : ((ofL (ofB k.data.toList)).toList == server.toList) with
  | false =>
    have he : addErr server most l k room by_ = some ([sAlias], 22) := by simp only [addErr, h1, h2, h3, h4]; simp
    rw [addL, he]
    exact (radd_server w server most s k room by_ a1 a2 a3 h1 h2 h3 h4).mono fun e w' h => ⟨s, h.1, keep w' h.2, h.2⟩
  | true =>
  rcases idx_get l k with ⟨h5, hi⟩ | ⟨i, x, _, _, _, _, _, h5, hi, _, _⟩
  · by_cases h6 : most ≤ l.length
    · have he : addErr server most l k room by_ = some ([], 14) := by simp only [addErr, h1, h2, h3, h4, h5]; simp [h6]
      rw [addL, he]
      exact (radd_full w server most s k room by_ a1 a2 a3 h1 h2 h3 h4 P l hr (by omega) hi h6).mono fun e w' h => ⟨s, h.1, keep w' h.2, h.2⟩
    · have he : addErr server most l k room by_ = none := by simp only [addErr, h1, h2, h3, h4, h5]; simp [h6]
      rw [addL, he]
      simp only [if_true]
      rw [← insR_is ⟨k, room, by_⟩ hl h5]
      exact (radd_ok w server most s k room by_ a1 a2 a3 h1 h2 h3 h4 P l hr hn hi (by omega)).mono fun e w' ⟨s', h1, h2, h3⟩ => ⟨s', h1, h2.mono fun g _ h => .inr h, h3⟩
  · have he : addErr server most l k room by_ = some ([], 15) := by simp only [addErr, h1, h2, h3, h4, h5]; simp
    rw [addL, he]
    exact (radd_there w server most s k room by_ a1 a2 a3 h1 h2 h3 h4 P l hr (by omega) i hi).mono fun e w' h => ⟨s, h.1, keep w' h.2, h.2⟩
end Go.Proofs.YtgnoaeldmpbjmaaGreatDoor
