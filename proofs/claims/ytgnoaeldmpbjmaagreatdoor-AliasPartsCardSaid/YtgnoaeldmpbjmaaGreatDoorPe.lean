/- Entries in order: what is gathered of a map and sorted is what it has. No walk. -/
import Derived.Test.YtgnoaeldmpbjmaaGreatDoorIt
import Derived.Test.YtgnoaeldmpbjmaaGreatDoorSe
set_option linter.unusedVariables false
namespace Go.Proofs.YtgnoaeldmpbjmaaGreatDoor
open Go.RowKit Go.Maps Go.Sort

theorem bytes_lt : ∀ a b : List UInt8, bytesBefore a b = ltStr a b
  | [], [] => by simp [bytesBefore, ltStr]
  | [], _ :: _ => by simp [bytesBefore, ltStr]
  | _ :: _, [] => by simp [bytesBefore, ltStr]
  | a :: la, b :: lb => by
    have ih := bytes_lt la lb
    unfold ltStr at ih ⊢
    rw [Bool.eq_iff_iff] at ih ⊢
    unfold bytesBefore
    simp only [decide_eq_true_eq, Bool.or_eq_true, Bool.and_eq_true, beq_iff_eq] at ih ⊢
    rw [List.cons_lt_cons_iff, ih]
/-- By aliases rising, each once. -/
def RiseE (l : List En) : Prop := l.Pairwise fun x y => bytesBefore x.key y.key = true
theorem lt_irr (a : List UInt8) : ltStr a a = false := swo_ltStr.irrefl a
theorem RiseE.nodup {l : List En} (h : RiseE l) : (l.map En.key).Nodup := by
  refine List.pairwise_map.2 (h.imp fun {a b} hab e => ?_)
  rw [e, bytes_lt, lt_irr] at hab
  cases hab
theorem RiseE.get {l : List En} (h : RiseE l) {x : En} (hx : x ∈ l) : getE l x.a = some x := by
  unfold getE
  rw [List.find?_eq_some_iff_append]
  obtain ⟨s, t, rfl⟩ := List.append_of_mem hx
  refine ⟨by simp [aliasIs], s, t, rfl, fun y hy => ?_⟩
  have := (List.pairwise_append.1 h).2.2 y hy x (by simp)
  unfold aliasIs
  simp only [Bool.not_eq_true']
  rw [beq_eq_false_iff_ne]
  intro e
  have e2 : y.key = x.key := e
  rw [e2, bytes_lt, lt_irr] at this
  cases this
theorem cells_inj {x y : En} (h : Value.agg x.cells = .agg y.cells) : x = y := by
  obtain ⟨a1, a2, a3⟩ := x
  obtain ⟨b1, b2, b3⟩ := y
  simp at h
  obtain ⟨rfl, rfl, rfl⟩ := h
  rfl
theorem keys_MD (l : List En) : strKeys (MD (ents l)) = l.map En.key := by
  unfold MD ents strKeys
  simp only [List.map_map]
  rfl
theorem enAt_get {l : List En} {p : List UInt8 × En} (h : EnAt (MD (ents l)) p) : p.2 ∈ l ∧ p.2.key = p.1 := by
  have e1 : Lit.string p.1 = lk ⟨p.1.toArray⟩ := by simp [lk]
  have h1 := h (.held undef)
  rw [e1, MD_atKey, ents_get] at h1
  cases hg : getE l ⟨p.1.toArray⟩ with
  | none =>
    rw [hg] at h1
    injection h1 with h1
    cases h1
  | some x =>
    rw [hg] at h1
    injection h1 with h1
    have hx := cells_inj h1
    unfold getE at hg
    have h2 := List.find?_some hg
    have h3 := List.mem_of_find?_eq_some hg
    rw [hx] at h2 h3
    refine ⟨h3, ?_⟩
    unfold aliasIs at h2
    unfold En.key
    simpa using h2
/-- What came of the map is what it has, in some order. -/
theorem gathered {l : List En} (hl : RiseE l) {ps : List (List UInt8 × En)} (h : EnAll (MD (ents l)) ps) : (ps.map (·.2)).Perm l := by
  obtain ⟨h1, h2, h3⟩ := h
  rw [keys_MD] at h1
  have hk : (ps.map (·.2)).map En.key = ps.map (·.1) := by
    rw [List.map_map]
    exact List.map_congr_left fun p hp => (enAt_get (h3 p hp)).2
  have hnd : (ps.map (·.2)).Nodup := by
    have : ((ps.map (·.2)).map En.key).Nodup := by rw [hk]; exact h1.nodup_iff.2 hl.nodup
    exact (List.pairwise_map.1 this).imp fun {a b} hab e => hab (by rw [e])
  have hnl : l.Nodup := (List.pairwise_map.1 hl.nodup).imp fun {a b} hab e => hab (by rw [e])
  refine (List.perm_ext_iff_of_nodup hnd hnl).2 fun x => ⟨fun hx => ?_, fun hx => ?_⟩
  · obtain ⟨p, hp, rfl⟩ := List.mem_map.1 hx
    exact (enAt_get (h3 p hp)).1
  · have : x.key ∈ (ps.map (·.2)).map En.key := by
      rw [hk]
      exact h1.mem_iff.2 (List.mem_map.2 ⟨x, hx, rfl⟩)
    obtain ⟨y, hy, hyk⟩ := List.mem_map.1 this
    obtain ⟨p, hp, rfl⟩ := List.mem_map.1 hy
    have hm := (enAt_get (h3 p hp)).1
    have g1 := hl.get hx
    have g2 := hl.get hm
    have : getE l x.a = getE l p.2.a := by
      unfold getE
      congr 1
      funext z
      unfold aliasIs
      have : x.a.data.toList = p.2.a.data.toList := hyk.symm
      rw [this]
    rw [g1, g2] at this
    injection this with this
    rw [this]
    exact hy
/-- Sorted, that is it. -/
theorem sorted_is {l l' : List En} (hl : RiseE l) (hp : l'.Perm l) (hs : l'.Pairwise fun a b => ltOf cmpE b a = false) : l' = l := by
  refine List.Perm.eq_of_pairwise (le := fun a b : En => ltOf cmpE b a = false) (fun a b ha hb h1 h2 => ?_) hs ?_ hp
  · have e : ∀ a b : En, ltOf cmpE a b = ltStr a.key b.key := fun a b => compare_lt _ _
    rw [e] at h1 h2
    have hk : a.key = b.key := by
      unfold ltStr at h1 h2
      simp only [decide_eq_false_iff_not] at h1 h2
      exact List.le_antisymm (by simpa using h1) (by simpa using h2)
    have g1 := hl.get (hp.mem_iff.1 ha)
    have g2 := hl.get hb
    have : getE l a.a = getE l b.a := by
      unfold getE
      congr 1
      funext z
      unfold aliasIs
      have : a.a.data.toList = b.a.data.toList := hk
      rw [this]
    rw [g1, g2] at this
    exact Option.some.inj this
  · refine List.Pairwise.imp (fun {a b} hab => ?_) hl
    have e : ltOf cmpE b a = ltStr b.key a.key := compare_lt _ _
    rw [e]
    rw [bytes_lt] at hab
    have := swo_ltStr
    cases hc : ltStr b.key a.key with
    | false => rfl
    | true =>
      have := this.trans _ _ _ hab hc
      rw [lt_irr] at this
      cases this
/-- The map's entries read as entries. -/
theorem ownsE {w : World} {b : Nat} {l : List En} (h : MapS w Tryz.prog 9 b (ents l)) : w.ownsMap Tryz.prog 9 enR b (ents l).length (MD (ents l)) := by
  obtain ⟨es, clock, hb, F, hs, hD⟩ := h
  have hall : ∀ x ∈ es.toList, ∃ y : En, x.val = .agg y.cells := by
    intro x hx
    obtain ⟨y, hy⟩ := F.reads x hx
    have hm : WideElems.rg Tryz.prog 9 hR x ∈ (es.toList.map (WideElems.rg Tryz.prog 9 hR)).foldr DataW.insert [] := mem_sorted.2 (List.mem_map.2 ⟨x, hx, rfl⟩)
    unfold MD at hD
    injection hD with hD
    rw [← hD] at hm
    obtain ⟨e, he, heq⟩ := List.mem_map.1 hm
    unfold ents at he
    obtain ⟨en, _, rfl⟩ := List.mem_map.1 he
    obtain ⟨z, hz1, hz2⟩ := WideElems.rd_val hy
    have h4 := WideElems.rg_of hy
    rw [h4] at heq
    have h5 : (DataW.held (Value.agg en.cells) : DataW Value) = y.2 := congrArg Prod.snd heq
    unfold hR at hz1
    injection hz1 with hz1
    rw [hz2, ← hz1] at h5
    injection h5 with h5
    exact ⟨en, h5.symm⟩
  have := World.ownsMap_of_fit (R := enR) hb F (fun x hx z hz => by
    obtain ⟨y, hy⟩ := hall x hx
    rw [hy] at hz ⊢
    exact hz)
  rw [← hD] at this
  exact this.mono hs
end Go.Proofs.YtgnoaeldmpbjmaaGreatDoor
