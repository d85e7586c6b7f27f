/- slices.Clone, of the rows of values and of members. -/
import Derived.Test.YtiehdfokcnphdaaGreatDoorProg
import Derived.Test.YtiehdfokcnphdaaGreatDoorV
import Derived.WalkKit
import Derived.Lib.LazyBuf
import Derived.Deep.QuietTactic
import Derived.BigQuiet
import Derived.Tactics
import Derived.KernelRfl
import Derived.Outline
import Derived.LoopTactic
import Derived.Deep.LoopGhost
namespace Go.Proofs.YtiehdfokcnphdaaGreatDoor
open Go.RowKit

theorem infoV : (Tryz.prog.info? 44).map (fun i => (i.zero, i.size, i.bytes)) = some (some (.agg #[.int .i64 0, .bool false, .int .i64 0, .string ⟨#[]⟩, .slice none 0 0, .slice none 0 0]), 6, 88) := by kernel_rfl
theorem infoM : (Tryz.prog.info? 48).map (fun i => (i.zero, i.size, i.bytes)) = some (some (.agg #[.string ⟨#[]⟩, .int .i64 0, .bool false, .int .i64 0, .string ⟨#[]⟩, .slice none 0 0, .slice none 0 0]), 7, 104) := by kernel_rfl

set_option maxRecDepth 100000 in
theorem cloneV_calls (w : World) (P : Nat → Prop) (s : Sl) (l : List V6) (h : RowOf w P 44 6 s (vcells l)) :
    Calls Tryz.prog 47 #[.slice s.a s.n s.c] w fun e w' => ∃ s' : Sl, e = .returned (.slice s'.a s'.n s'.c) ∧ RowOf w' (fun g => w.heap.size ≤ g) 44 6 s' (vcells l) ∧ Below w.heap.size w w' := by
  obtain ⟨hn, hm, h⟩ := h
  have heq := fun (W : World) (a : Option Addr) (n c : Nat) => run_eql_slice_nil (P := Tryz.prog) W 41 44 a n c Tryz.underlying41
  have HL := Lib.hid (vcells_len l)
  have H1 := Lib.hid (vcells_one l)
  rcases h with ⟨rfl, hl⟩ | ⟨r, ha, hc, _, hr, hrw⟩
  · have HE := Lib.hid hl
    clear hn hm hl HL H1
    go_enter Tryz.func47, Tryz.ntmps47
    go_wp2_with fail
    go_ret
    exact ⟨⟨none, 0, 0⟩, rfl, ⟨by rw [HE.out]; rfl, by rw [HE.out]; simp, .inl ⟨rfl, HE.out⟩⟩, Below.refl _ _⟩
  · obtain ⟨A, n, c⟩ := s
    dsimp only at ha hn hc ⊢
    subst ha
    have HF := Lib.hid (hrw.flat (by decide))
    have HN := Lib.hid hn
    have HM := Lib.hid hm
    have hlen := flatten_length (vcells l) HL.out
    have HLEN := Lib.hid hlen
    obtain ⟨i0, hi, hz0, hz1, hz2⟩ := info_parts infoV
    have HI := Lib.hid hi
    have HZ0 := Lib.hid hz0
    have HZ1 := Lib.hid hz1
    have HZ2 := Lib.hid hz2
    clear hn hm hrw hi hz0 hz1 hz2 hlen hc
    go_enter Tryz.func47, Tryz.ntmps47
    go_wp2_with (at_builtin; refine wpList_append_own _ rfl _ _ 41 rfl w.heap.size 44 i0 _ 6 88 Tryz.underlying41 HI.out HZ0.out HZ1.out HZ2.out rfl (by decide) _ 0 [] rfl ⟨rfl, .inr ⟨w.heap.size, 0, #[], rfl, Nat.le_refl _, by exact heap_new _ _, by omega, by decide, rfl, rfl⟩⟩ ⟨r, 0, none⟩ n _ (vcells l).flatten rfl (by rw [HLEN.out, HN.out]) ?c1 H1.out ?c3 ?c4 ?c5 ?_)
    case c1 =>
      intro j u hj
      have := HF.out j u hj
      rw [show (Addr.add ⟨r, 0, none⟩ j) = ⟨r, j, none⟩ by unfold Addr.add; split <;> simp_all]
      exact (cell_old _ _ _ (by show r < _; exact hr)).trans this
    case c3 => have := HM.out; have := HN.out; unfold maxLen; omega
    case c4 => have := HM.out; have := HN.out; omega
    case c5 => simp
    intro v' w' hown hg _
    obtain ⟨s', rfl, hrow⟩ := RowOf.of_own (l := vcells l) (by simpa using hown) HL.out (by decide) HM.out
    have HROW := Lib.hid hrow
    have HG := Lib.hid hg
    clear hown hrow hg
    go_wp2_with fail
    go_ret
    refine ⟨s', rfl, HROW.out, ?_⟩
    exact ((Below.refl w.heap.size w).alloc (Nat.le_refl _) _).grown HG.out (by simp) (fun j hj => by simp [Value.ownBlock] at hj; omega)
set_option maxRecDepth 100000 in
theorem cloneM_calls (w : World) (P : Nat → Prop) (s : Sl) (l : List Mb) (h : RowOf w P 48 7 s (mcells l)) :
    Calls Tryz.prog 48 #[.slice s.a s.n s.c] w fun e w' => ∃ s' : Sl, e = .returned (.slice s'.a s'.n s'.c) ∧ RowOf w' (fun g => w.heap.size ≤ g) 48 7 s' (mcells l) ∧ Below w.heap.size w w' := by
  obtain ⟨hn, hm, h⟩ := h
  have heq := fun (W : World) (a : Option Addr) (n c : Nat) => run_eql_slice_nil (P := Tryz.prog) W 42 48 a n c Tryz.underlying42
  have HL := Lib.hid (mcells_len l)
  have H1 := Lib.hid (mcells_one l)
  rcases h with ⟨rfl, hl⟩ | ⟨r, ha, hc, _, hr, hrw⟩
  · have HE := Lib.hid hl
    clear hn hm hl HL H1
    go_enter Tryz.func48, Tryz.ntmps48
    go_wp2_with fail
    go_ret
    exact ⟨⟨none, 0, 0⟩, rfl, ⟨by rw [HE.out]; rfl, by rw [HE.out]; simp, .inl ⟨rfl, HE.out⟩⟩, Below.refl _ _⟩
  · obtain ⟨A, n, c⟩ := s
    dsimp only at ha hn hc ⊢
    subst ha
    have HF := Lib.hid (hrw.flat (by decide))
    have HN := Lib.hid hn
    have HM := Lib.hid hm
    have hlen := flatten_length (mcells l) HL.out
    have HLEN := Lib.hid hlen
    obtain ⟨i0, hi, hz0, hz1, hz2⟩ := info_parts infoM
    have HI := Lib.hid hi
    have HZ0 := Lib.hid hz0
    have HZ1 := Lib.hid hz1
    have HZ2 := Lib.hid hz2
    clear hn hm hrw hi hz0 hz1 hz2 hlen hc
    go_enter Tryz.func48, Tryz.ntmps48
    go_wp2_with (at_builtin; refine wpList_append_own _ rfl _ _ 42 rfl w.heap.size 48 i0 _ 7 104 Tryz.underlying42 HI.out HZ0.out HZ1.out HZ2.out rfl (by decide) _ 0 [] rfl ⟨rfl, .inr ⟨w.heap.size, 0, #[], rfl, Nat.le_refl _, by exact heap_new _ _, by omega, by decide, rfl, rfl⟩⟩ ⟨r, 0, none⟩ n _ (mcells l).flatten rfl (by rw [HLEN.out, HN.out]) ?c1 H1.out ?c3 ?c4 ?c5 ?_)
    case c1 =>
      intro j u hj
      have := HF.out j u hj
      rw [show (Addr.add ⟨r, 0, none⟩ j) = ⟨r, j, none⟩ by unfold Addr.add; split <;> simp_all]
      exact (cell_old _ _ _ (by show r < _; exact hr)).trans this
    case c3 => have := HM.out; have := HN.out; unfold maxLen; omega
    case c4 => have := HM.out; have := HN.out; omega
    case c5 => simp
    intro v' w' hown hg _
    obtain ⟨s', rfl, hrow⟩ := RowOf.of_own (l := mcells l) (by simpa using hown) HL.out (by decide) HM.out
    have HROW := Lib.hid hrow
    have HG := Lib.hid hg
    clear hown hrow hg
    go_wp2_with fail
    go_ret
    refine ⟨s', rfl, HROW.out, ?_⟩
    exact ((Below.refl w.heap.size w).alloc (Nat.le_refl _) _).grown HG.out (by simp) (fun j hj => by simp [Value.ownBlock] at hj; omega)
end Go.Proofs.YtiehdfokcnphdaaGreatDoor
