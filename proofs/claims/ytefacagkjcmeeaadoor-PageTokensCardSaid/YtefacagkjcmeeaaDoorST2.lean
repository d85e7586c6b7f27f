import Derived.Test.YtefacagkjcmeeaaDoorST1
namespace Go.Proofs.YtefacagkjcmeeaaDoor.S
open Go.RowKit

theorem enter_over : ∀ args W, Sem.run Tryd.prog (callFunc 32 args) W = .ok (.enter 32 args) W := fun _ _ => by kernel_rfl
theorem enter_find1 : ∀ args W, Sem.run Tryd.prog (callFunc 34 args) W = .ok (.enter 34 args) W := fun _ _ => by kernel_rfl

/-- over: of a book with these numbers, a thing's time. -/
theorem over_calls (w : World) (g : Nat) (life now : Int) (k : Kp) (hg : g < w.heap.size)
   (hc1 : w.cell? ⟨g, 1, none⟩ = some (.int .i64 life)) (hc2 : w.cell? ⟨g, 2, none⟩ = some (.int .i64 now)) :
   Calls Tryd.prog 32 #[.pointer (some ⟨g, 0, none⟩), .agg k.cells] w
     fun e w' => e = .returned (.bool (overB life now k)) ∧ Below w.heap.size w w' := by
  go_enter Tryd.func32, Tryd.ntmps32
  go_wp2
  go_quiet (fail)
  go_wp2
  go_ret
  exact ⟨rfl, below_drewN' (Below.alloc (Below.refl _ _) (Nat.le_refl _) _) _⟩

theorem find1_calls (w : World) (d : Nat) (tok : ByteArray) (k : Kp) (hd : d < w.heap.size) (hc : w.cell? ⟨d, 0, none⟩ = some (.string tok)) :
   Calls Tryd.prog 34 #[.agg k.cells, .pointer (some ⟨d, 0, none⟩)] w
     fun e w' => e = .returned (.bool (tokB tok k)) ∧ Below w.heap.size w w' := by
  go_enter Tryd.func34, Tryd.ntmps34
  go_wp2
  go_ret
  exact ⟨rfl, Below.alloc (Below.refl _ _) (Nat.le_refl _) _⟩

/-- A book at block g, its row of things at ro. -/
def Bk (w : World) (g : Nat) (A : Option Addr) (cap : Nat) (ro : Option Nat) (b : BK) : Prop :=
  w.heap[g]? = some (.cells #[.int .i64 b.most, .int .i64 b.life, .int .i64 b.now, .slice A b.l.length cap] 68 (0, 0)) ∧ SlRow w A cap ro b.l ∧ ro ≠ some g
theorem Bk.lt {w : World} {g : Nat} {A : Option Addr} {cap : Nat} {ro : Option Nat} {b : BK} (h : Bk w g A cap ro b) : g < w.heap.size := (Array.getElem?_eq_some_iff.1 h.1).1
theorem Bk.same {w w' : World} {g : Nat} {A : Option Addr} {cap : Nat} {ro : Option Nat} {b : BK} (h : Bk w g A cap ro b) (hg : w'.heap[g]? = w.heap[g]?) (hr : ∀ r, ro = some r → w'.heap[r]? = w.heap[r]?) : Bk w' g A cap ro b :=
  ⟨hg.trans h.1, h.2.1.same hr, h.2.2⟩
theorem Bk.below {w w' : World} {g : Nat} {A : Option Addr} {cap : Nat} {ro : Option Nat} {b : BK} (h : Bk w g A cap ro b) (hb : Below w.heap.size w w') : Bk w' g A cap ro b :=
  h.same (hb.block g h.lt) (fun r hr => hb.block r (h.2.1.lt r hr))

theorem find_calls (w : World) (g : Nat) (A : Option Addr) (cap : Nat) (ro : Option Nat) (b : BK) (tok : ByteArray) (hl : b.l.length ≤ 60) (h : Bk w g A cap ro b) :
   Calls Tryd.prog 25 #[.pointer (some ⟨g, 0, none⟩), .string tok] w
     fun e w' => e = .returned (.int .i64 (idxOf (tokB tok) b.l)) ∧ Below w.heap.size w w' := by
  have hg := h.lt
  have hh := h.1
  have hc3 : w.cell? ⟨g, 3, none⟩ = some (.slice A b.l.length cap) := by simp [World.cell?, hh]
  have HI := Lib.hid (index_sl (w.alloc (.cells #[.string tok] 9)) A cap ro b.l 34 #[] #[.pointer (some ⟨w.heap.size, 0, none⟩)] (tokB tok) hl
    (h.2.1.same (fun r hr => Below.heap_alloc _ _ _ (h.2.1.lt r hr))) enter_find1 (fun W k _ hb => by
      have := find1_calls W w.heap.size tok k (by have := hb.size; simp at this; omega) ((hb.cell (p := ⟨w.heap.size, 0, none⟩) (by simp)).trans (by simp))
      simpa using this))
  clear h hh
  go_enter Tryd.func25, Tryd.ntmps25
  go_wp2_with fail
  refine HI.out.mono ?_
  rintro e w1 ⟨rfl, hb1⟩
  have HB := Lib.hid (Below.trans (Below.alloc (Below.refl w.heap.size w) (Nat.le_refl _) (.cells #[.string tok] 9)) (hb1.mono (by simp)))
  clear HI hb1
  go_wp2_with fail
  go_ret
  exact ⟨rfl, HB.out⟩

theorem clear_book (w : World) (g : Nat) (A : Option Addr) (cap : Nat) (ro : Option Nat) (b : BK) (now : Int) (hl : b.l.length ≤ 60) (h : Bk w g A cap ro b) :
   Calls Tryd.prog 22 #[.pointer (some ⟨g, 0, none⟩), .int .i64 now] w
     fun e w' => e = .returned (.int .i64 ((b.l.length : Int) - (b.clear now).l.length)) ∧ Bk w' g A cap ro (b.clear now) ∧ Fr (fun k => k = g ∨ ro = some k) w w' := by
  have hg := h.lt
  have hh := h.1
  have hne := h.2.2
  have hc1 : w.cell? ⟨g, 1, none⟩ = some (.int .i64 b.life) := by simp [World.cell?, hh]
  have hc2 : w.cell? ⟨g, 2, none⟩ = some (.int .i64 b.now) := by simp [World.cell?, hh]
  have hc3 : w.cell? ⟨g, 3, none⟩ = some (.slice A b.l.length cap) := by simp [World.cell?, hh]
  have hfz : ∀ o, w.frozen? ⟨g, o, none⟩ = false := fun o => by simp [World.frozen?, hh]
  have hmx : (now ≤ b.now ∧ max b.now now = b.now) ∨ (b.now < now ∧ max b.now now = now) := by omega
  have hw : ∀ nw, (w.setCell ⟨g, 2, none⟩ (.int .i64 nw)).heap[g]? = some (.cells #[.int .i64 b.most, .int .i64 b.life, .int .i64 nw, .slice A b.l.length cap] 68 (0, 0)) := fun nw => by
    rw [setCell_heap_at hh]; rfl
  have HW := Lib.hid hw
  have HN := Lib.hid hne
  have HS := Lib.hid h.2.1
  have hD : ∀ nw, Calls Tryd.prog 31 #[.slice A b.l.length cap, .func (.func 32) #[.pointer (some ⟨g, 0, none⟩)] #[]] (w.setCell ⟨g, 2, none⟩ (.int .i64 nw)) fun e w' => e = .returned (.slice A (keep (overB b.life nw) b.l).length cap) ∧ SlRow w' A cap ro (keep (overB b.life nw) b.l) ∧ (w.setCell ⟨g, 2, none⟩ (.int .i64 nw)).grownBy w' ro := fun nw =>
    delete_sl _ A cap ro b.l 32 _ _ (overB b.life nw) hl (HS.out.same (fun r hr => Below.heap_setCell _ _ _ _ (by rintro rfl; exact hne hr))) enter_over (fun W k _ hG => by
      have hgW : W.heap[g]? = _ := (hG.block g (by simp [World.setCell]; omega) (fun e => hne e.symm)).trans (hw nw)
      have := over_calls W g b.life nw k ((Array.getElem?_eq_some_iff.1 hgW).1) (by simp [World.cell?, hgW]) (by simp [World.cell?, hgW])
      simpa using this)
  have HD := Lib.hid hD
  clear h hh hne hw hD
  rcases hmx with ⟨hle, hm⟩ | ⟨hle, hm⟩
  all_goals
    have HM := Lib.hid hm
    clear hm
    go_enter Tryd.func22, Tryd.ntmps22
    go_wp2_with fail
    refine (HD.out _).mono ?_
    rintro e w1 ⟨rfl, hS1, hG1⟩
    have hg1 := (hG1.block g (by simp [World.setCell]; omega) (fun e => HN.out e.symm)).trans (HW.out _)
    have k3 : w1.cell? ⟨g, 3, none⟩ = some (.slice A b.l.length cap) := by simp [World.cell?, hg1]
    have kz : ∀ o, w1.frozen? ⟨g, o, none⟩ = false := fun o => by simp [World.frozen?, hg1]
    have HG1 := Lib.hid hg1
    have HF := Lib.hid (Fr.then_ (Fr.setCell (S := fun k => k = g ∨ ro = some k) w ⟨g, 2, none⟩ (.int .i64 _) (.inl rfl)) (Fr.of_grown (S := fun k => k = g ∨ ro = some k) hG1 (fun r hr => .inr hr)) (fun _ _ h => h))
    have HS1 := Lib.hid hS1
    have hlen : (keep (overB b.life (max b.now now)) b.l).length ≤ b.l.length := List.length_filter_le _ _
    rw [HM.out] at hlen
    clear hS1 hG1 hg1 HD hc1 hc2 hc3 hfz HS HW
    go_wp2_with fail
    go_ret
    refine ⟨?_, ⟨?_, ?_, HN.out⟩, ?_⟩
    · simp only [BK.clear, HM.out]; rfl
    · simp only [BK.clear, HM.out]
      rw [setCell_heap_at HG1.out]; rfl
    · simp only [BK.clear, HM.out]
      exact HS1.out.same (fun r hr => Below.heap_setCell _ _ _ _ (by rintro rfl; exact HN.out hr))
    · exact HF.out.trans (Fr.setCell _ _ _ (.inl rfl))
end Go.Proofs.YtefacagkjcmeeaaDoor.S
