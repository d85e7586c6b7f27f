/- A table and the document's: what an act does to both. -/
import Derived.Test.YtgnoaeldmpbjmaaGreatDoorRv
import Derived.Test.YtgnoaeldmpbjmaaGreatDoorRy
import Derived.Test.YtgnoaeldmpbjmaaGreatDoorAc
set_option linter.unusedVariables false
namespace Go.Proofs.YtgnoaeldmpbjmaaGreatDoor
open Go.RowKit Go.Maps Go.Sort

theorem key_eq {a b : ByteArray} (h : a.data.toList = b.data.toList) : a = b := ba_eq h
theorem idx_get (l : List En) (k : ByteArray) : (getE l k = none ∧ idxE l k = -1) ∨ ∃ (i : Nat) (x : En) (s t : List En), l = s ++ x :: t ∧ s.length = i ∧ l[i]? = some x ∧ getE l k = some x ∧ idxE l k = i ∧ x.a = k ∧ ∀ y ∈ s, aliasIs k y = false := by
  cases hg : getE l k with
  | none =>
    refine .inl ⟨rfl, idx_none fun y hy => ?_⟩
    have := List.find?_eq_none.1 hg y hy
    simpa using this
  | some x =>
    obtain ⟨hp, s, t, rfl, hs⟩ := List.find?_eq_some_iff_append.1 hg
    have hno : ∀ y ∈ s, aliasIs k y = false := fun y hy => by simpa using hs y hy
    have hi : (s ++ x :: t)[s.length]? = some x := by simp
    refine .inr ⟨s.length, x, s, t, rfl, rfl, hi, rfl, idx_hit hi hp (by simpa using hno), ?_, hno⟩
    unfold aliasIs at hp
    exact key_eq (by simpa using hp)
theorem before_irr (a : List UInt8) : bytesBefore a a = false := by rw [bytes_lt]; exact lt_irr a
theorem before_asym {a b : List UInt8} (h : bytesBefore a b = true) : bytesBefore b a = false := by
  rw [bytes_lt] at h ⊢
  cases hc : ltStr b a with
  | false => rfl
  | true =>
    have := swo_ltStr.trans _ _ _ h hc
    rw [lt_irr] at this
    cases this
theorem before_trans {a b c : List UInt8} (h : bytesBefore a b = true) (k : bytesBefore b c = true) : bytesBefore a c = true := by
  rw [bytes_lt] at h k ⊢
  exact swo_ltStr.trans _ _ _ h k
theorem before_total {a b : List UInt8} (h : bytesBefore a b = false) (hne : b ≠ a) : bytesBefore b a = true := by
  rw [bytes_lt] at h ⊢
  cases hc : ltStr b a with
  | true => rfl
  | false =>
    refine absurd ?_ hne
    unfold ltStr at h hc
    simp only [decide_eq_false_iff_not] at h hc
    exact List.le_antisymm (by simpa using h) (by simpa using hc)
theorem rise_del {l : List En} (k : ByteArray) (h : RiseE l) : RiseE (delE k l) := List.Pairwise.filter _ h
theorem mem_ins {x y : En} : ∀ {l : List En}, y ∈ insE x l → y = x ∨ y ∈ l
  | [], h => by simp [insE] at h; exact .inl h
  | z :: r, h => by
    unfold insE at h
    split at h
    · rcases List.mem_cons.1 h with h | h
      · exact .inl h
      · exact .inr h
    · rcases List.mem_cons.1 h with h | h
      · exact .inr (by rw [h]; simp)
      · rcases mem_ins h with h | h
        · exact .inl h
        · exact .inr (by simp [h])
theorem get_none_ne {l : List En} {k : ByteArray} (h : getE l k = none) {y : En} (hy : y ∈ l) : y.key ≠ k.data.toList := fun e => by
  have h2 : aliasIs k y = true := beq_iff_eq.2 e
  exact List.find?_eq_none.1 h y hy h2
theorem rise_ins (x : En) : ∀ {l : List En}, RiseE l → getE l x.a = none → RiseE (insE x l)
  | [], _, _ => by simp [insE, RiseE]
  | z :: r, h, hg => by
    have hz := List.pairwise_cons.1 h
    have hne := get_none_ne hg (y := z) (by simp)
    have hgr : getE r x.a = none := List.find?_eq_none.2 fun y hy => List.find?_eq_none.1 hg y (by simp [hy])
    unfold insE
    split
    · rename_i hb
      refine List.pairwise_cons.2 ⟨fun y hy => ?_, h⟩
      rcases List.mem_cons.1 hy with rfl | hy
      · exact hb
      · exact before_trans hb (hz.1 y hy)
    · rename_i hb
      have hb' : bytesBefore z.key x.key = true := before_total (Bool.eq_false_iff.2 hb) hne
      refine List.pairwise_cons.2 ⟨fun y hy => ?_, rise_ins x hz.2 hgr⟩
      rcases mem_ins hy with rfl | hy
      · exact hb'
      · exact hz.1 y hy
theorem insR_is (x : En) : ∀ {l : List En}, RiseE l → getE l x.a = none → insR x l = insE x l
  | [], _, _ => rfl
  | z :: r, h, hg => by
    have hz := List.pairwise_cons.1 h
    have hne := get_none_ne hg (y := z) (by simp)
    have hgr : getE r x.a = none := List.find?_eq_none.2 fun y hy => List.find?_eq_none.1 hg y (by simp [hy])
    unfold insE
    split
    · rename_i hb
      have := before_asym hb
      unfold insR
      simp only [List.takeWhile_cons, List.dropWhile_cons]
      have e : bytesBefore z.key x.key = false := this
      simp [e]
    · rename_i hb
      have hb' : bytesBefore z.key x.key = true := before_total (Bool.eq_false_iff.2 hb) hne
      rw [← insR_is x hz.2 hgr]
      unfold insR
      rw [List.takeWhile_cons, List.dropWhile_cons]
      simp [hb']
theorem insE_length (x : En) : ∀ l : List En, (insE x l).length = l.length + 1
  | [] => rfl
  | z :: r => by
    unfold insE
    split
    · simp
    · simp [insE_length x r]
theorem del_at {s t : List En} {x : En} (h : RiseE (s ++ x :: t)) : delE x.a (s ++ x :: t) = (s ++ x :: t).take s.length ++ (s ++ x :: t).drop (s.length + 1) := by
  have hnd := h.nodup
  rw [List.map_append, List.map_cons, List.nodup_append] at hnd
  obtain ⟨_, h2, h3⟩ := hnd
  have h4 := List.nodup_cons.1 h2
  have e1 : ∀ y ∈ s, (!aliasIs x.a y) = true := fun y hy => by
    have := h3 y.key (List.mem_map.2 ⟨y, hy, rfl⟩) x.key (by simp)
    have hf : aliasIs x.a y = false := beq_eq_false_iff_ne.2 this
    rw [hf]; rfl
  have e2 : ∀ y ∈ t, (!aliasIs x.a y) = true := fun y hy => by
    have : y.key ≠ x.key := fun e => h4.1 (List.mem_map.2 ⟨y, hy, e⟩)
    have hf : aliasIs x.a y = false := beq_eq_false_iff_ne.2 this
    rw [hf]; rfl
  have e3 : (!aliasIs x.a x) = false := by simp [aliasIs]
  unfold delE
  rw [List.filter_append, List.filter_cons, e3, List.filter_eq_self.2 e1]
  simp only [Bool.false_eq_true, if_false]
  rw [List.filter_eq_self.2 e2]
  simp [List.drop_append]

/-- The list behind a taking; behind a giving; what is wrong with a giving. -/
def dropL (l : List En) (k by_ : ByteArray) (may : Bool) : List En := if dropErr l k by_ may = none then delE k l else l
def addErr (server : ByteArray) (most : Int) (l : List En) (k room by_ : ByteArray) : Er :=
  if isB 3 k.data.toList = false then some ([sAlias], 7) else if isB 1 room.data.toList = false then some ([sRoom], 7) else if isB 2 by_.data.toList = false then some ([sUser], 7)
  else if ((ofL (ofB k.data.toList)).toList == server.toList) = false then some ([sAlias], 22) else if getE l k ≠ none then some ([], 15) else if most ≤ l.length then some ([], 14) else none
def addL (server : ByteArray) (most : Int) (l : List En) (k room by_ : ByteArray) : List En := if addErr server most l k room by_ = none then insE ⟨k, room, by_⟩ l else l
theorem rise_drop {l : List En} (h : RiseE l) (k by_ : ByteArray) (may : Bool) : RiseE (dropL l k by_ may) := by
  unfold dropL
  split
  · exact rise_del k h
  · exact h
theorem addErr_none {server : ByteArray} {most : Int} {l : List En} {k room by_ : ByteArray} (h : addErr server most l k room by_ = none) :
    isB 3 k.data.toList = true ∧ isB 1 room.data.toList = true ∧ isB 2 by_.data.toList = true ∧ ((ofL (ofB k.data.toList)).toList == server.toList) = true ∧ getE l k = none ∧ (l.length : Int) < most := by
  unfold addErr at h
  split at h
  · cases h
  split at h
  · cases h
  split at h
  · cases h
  split at h
  · cases h
  split at h
  · cases h
  split at h
  · cases h
  rename_i h1 h2 h3 h4 h5 h6
  exact ⟨by simpa using h1, by simpa using h2, by simpa using h3, by simpa using h4, by simpa using h5, by omega⟩
theorem rise_add {server : ByteArray} {most : Int} {l : List En} (h : RiseE l) (k room by_ : ByteArray) : RiseE (addL server most l k room by_) := by
  unfold addL
  split
  · rename_i he
    exact rise_ins _ h (addErr_none he).2.2.2.2.1
  · exact h
theorem dropL_length (l : List En) (k by_ : ByteArray) (may : Bool) : (dropL l k by_ may).length ≤ l.length := by
  unfold dropL
  split
  · exact List.length_filter_le _ _
  · exact Nat.le_refl _
theorem addL_length (server : ByteArray) (most : Int) (l : List En) (k room by_ : ByteArray) : (addL server most l k room by_).length ≤ l.length + 1 := by
  unfold addL
  split
  · rw [insE_length]; omega
  · omega

theorem errV_nil (w : World) (P : Nat → Prop) : ErrV w P .nilIface none := rfl
theorem tdrop_calls (w : World) (g b : Nat) (server : ByteArray) (most : Int) (l : List En) (k by_ : ByteArray) (may : Bool) (ht : Tab w g b server most l) (hk : k.size ≤ maxLen) :
    Calls Tryz.prog 33 #[.pointer (some ⟨g, 0, none⟩), .string k, .string by_, .bool may] w fun e w' => ∃ v, e = .returned v ∧ ErrV w' (fun i => w.heap.size ≤ i) v (dropErr l k by_ may) ∧ Tab w' g b server most (dropL l k by_ may) ∧ Fr (fun i => i = b) w w' := by
  cases hg : getE l k with
  | none =>
    have he : dropErr l k by_ may = some ([], 16) := by simp [dropErr, hg]
    rw [dropL, he]
    exact (drop_none w g b server most l k by_ may ht hk hg).mono fun e w' h => ⟨_, h.1, ErrV.code _ _ 16, h.2.1, h.2.2⟩
  | some x =>
    cases hb : (x.b.toList == by_.toList) with
    | true =>
      have he : dropErr l k by_ may = none := by simp [dropErr, hg, sameB, hb]
      rw [dropL, he]
      exact (drop_same w g b server most l k by_ may ht hk x hg hb).mono fun e w' h => ⟨_, h.1, errV_nil _ _, h.2.1, h.2.2⟩
    | false =>
      cases may with
      | true =>
        have he : dropErr l k by_ true = none := by simp [dropErr, hg]
        rw [dropL, he]
        exact (drop_may w g b server most l k by_ ht hk x hg hb).mono fun e w' h => ⟨_, h.1, errV_nil _ _, h.2.1, h.2.2⟩
      | false =>
        have he : dropErr l k by_ false = some ([], 22) := by simp [dropErr, hg, sameB, hb]
        rw [dropL, he]
        exact (drop_denied w g b server most l k by_ ht hk x hg hb).mono fun e w' h => ⟨_, h.1, ErrV.code _ _ 22, h.2.1, h.2.2⟩
theorem rdrop_calls (w : World) (server : ByteArray) (most : Int) (s : Sl) (P : Nat → Prop) (l : List En) (k by_ : ByteArray) (may : Bool) (hr : RowOf w P 105 3 s (rowsE l)) (hn : l.length ≤ 1000000) (hl : RiseE l) :
    Calls Tryz.prog 32 #[.agg (tCells server most s), .string k, .string by_, .bool may] w fun e w' => ∃ s' : Sl, e = .returned (.tuple #[.agg (tCells server most s'), erV (dropErr l k by_ may)]) ∧ RowOf w' (fun g => P g ∨ w.heap.size ≤ g) 105 3 s' (rowsE (dropL l k by_ may)) ∧ Below w.heap.size w w' := by
  have keep : ∀ w', Below w.heap.size w w' → RowOf w' (fun g => P g ∨ w.heap.size ≤ g) 105 3 s (rowsE l) := fun w' h => (hr.same h.size (fun g hg _ => h.block g hg)).mono fun g _ h => .inl h
  rcases idx_get l k with ⟨hg, hi⟩ | ⟨i, x, a, t, rfl, hi, hx, hg, hix, hxa, hno⟩
  · have he : dropErr l k by_ may = some ([], 16) := by simp [dropErr, hg]
    rw [dropL, he]
    exact (rdrop_none w server most s P l k by_ may hr hn hi).mono fun e w' h => ⟨s, h.1, keep w' h.2, h.2⟩
  · subst hi
    cases hb : (x.b.toList == by_.toList) with
    | true =>
      have he : dropErr (a ++ x :: t) k by_ may = none := by simp [dropErr, hg, sameB, hb]
      rw [dropL, he]
      simp only [if_true]
      subst hxa
      rw [del_at hl]
      exact (rdrop_ok w server most s P _ x.a by_ a.length x hr hn hix hx hb may).mono fun e w' ⟨s', h1, h2, h3⟩ => ⟨s', h1, h2.mono fun g _ h => .inr h, h3⟩
    | false =>
      cases may with
      | true =>
        have he : dropErr (a ++ x :: t) k by_ true = none := by simp [dropErr, hg]
        rw [dropL, he]
        simp only [if_true]
        subst hxa
        rw [del_at hl]
        exact (rdrop_may w server most s P _ x.a by_ a.length x hr hn hix hx hb).mono fun e w' ⟨s', h1, h2, h3⟩ => ⟨s', h1, h2.mono fun g _ h => .inr h, h3⟩
      | false =>
        have he : dropErr (a ++ x :: t) k by_ false = some ([], 22) := by simp [dropErr, hg, sameB, hb]
        rw [dropL, he]
        exact (rdrop_denied w server most s P _ k by_ a.length x hr hn hix hx hb).mono fun e w' h => ⟨s, h.1, keep w' h.2, h.2⟩
end Go.Proofs.YtgnoaeldmpbjmaaGreatDoor
