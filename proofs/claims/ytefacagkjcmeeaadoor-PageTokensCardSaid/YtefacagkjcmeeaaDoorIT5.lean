import Derived.Test.YtefacagkjcmeeaaDoorIT4
import Derived.Laws.OwnMore
import Derived.OwnWalk
namespace Go.Proofs.YtefacagkjcmeeaaDoor.I
open Go.RowKit

theorem new_calls (w : World) (room life : Int) (h1 : 1 ≤ room) (h2 : room ≤ 20) (h3 : 1 ≤ life) (h4 : life ≤ 9007199254740991) :
   Calls Tryd.prog 7 #[.int .i64 room, .int .i64 life] w
     fun e w' => e = .returned (.tuple #[.pointer (some ⟨w.heap.size, 0, none⟩), .nilIface]) ∧ w' = w.alloc (.cells #[.int .i64 room, .int .i64 life, .int .i64 (-9223372036854775808), .slice none 0 0] 54) := by
  go_enter Tryd.func7, Tryd.ntmps7
  go_wp2_with fail
  go_ret2
  exact ⟨rfl, rfl⟩

theorem info9 : (Tryd.prog.info? 9).map (fun i => (i.zero, i.size, i.bytes)) = some (some (.string ⟨#[]⟩), 1, 16) := by kernel_rfl

theorem tokens_calls (w : World) (g : Nat) (A : Option Addr) (cap : Nat) (ro : Option Nat) (b : BK) (hl : b.l.length ≤ 60) (h : Bk w g A cap ro b) :
   Calls Tryd.prog 15 #[.pointer (some ⟨g, 0, none⟩)] w
     fun e w' => ∃ v, e = .returned v ∧ w'.ownsRow w.heap.size 9 1 v b.l.length (b.l.map fun k => .string k.tok) ∧ Below w.heap.size w w' := by
  have hg := h.lt
  have hh := h.1
  have hc3 : w.cell? ⟨g, 3, none⟩ = some (.slice A b.l.length cap) := by simp [World.cell?, hh]
  have HB := Lib.hid h
  obtain ⟨i0, hi, hz0, hz1, hz2⟩ := info_parts info9
  have HI := Lib.hid hi
  have HZ0 := Lib.hid hz0
  have HZ1 := Lib.hid hz1
  have HZ2 := Lib.hid hz2
  clear h hh hi hz0 hz1 hz2
  go_enter Tryd.func15, Tryd.ntmps15
  go_wp2_with fail
  go_loopw [3, 11] (fun v i wr => ∃ k : Nat, k ≤ b.l.length ∧ i = .int .i64 k ∧ wr.ownsRow w.heap.size 9 1 v k ((b.l.take k).map fun k => .string k.tok) ∧ Below w.heap.size w wr) (fun _ i _ => b.l.length - (intOf i).toNat)
  case atStart => exact ⟨0, by omega, rfl, ⟨rfl, .inl ⟨rfl, rfl⟩⟩, Below.refl _ _⟩
  case round =>
    obtain ⟨k, hk, rfl, hown, hb⟩ := hrel
    by_cases hlt : k < b.l.length
    · have hq : b.l[k]? = some b.l[k] := by simp [hlt]
      generalize b.l[k] = q at hq
      have hbw := HB.out.below hb
      obtain ⟨r, rfl, hor⟩ : ∃ r, A = some ⟨r, 0, none⟩ ∧ OwnRow wr 57 r cap b.l := by
        rcases hbw.2.1 with ⟨_, hn, _⟩ | ⟨r, h1, _, _, h4⟩
        · rw [hn] at hlt; simp at hlt
        · exact ⟨r, h1, h4⟩
      have hrl := hor.lt
      obtain ⟨c0, c1, c2, c3, c4⟩ := hor.choose_spec.2.2.2 k q hq
      have hst := fun W a => run_store Tryd.prog W a q.x .plain q.one
      have HQ := Lib.hid hq
      have HOWN := Lib.hid hown
      have HBL := Lib.hid hb
      have hsz := hb.size
      clear hbw hor hq hown hb
      go_wp2_with (at_builtin; refine wpList_append_own _ rfl (.tmp 15) (.tmp 18) 42 rfl w.heap.size 9 i0 (.string ⟨#[]⟩) 1 16 Tryd.underlying42 HI.out HZ0.out HZ1.out HZ2.out rfl (by decide) _ k _ rfl ((HOWN.out.alloc _).alloc _) ⟨wr.heap.size + 1, 0, none⟩ 1 1 [.string q.tok] rfl rfl ?c1 ?c2 ?c3 ?c4 ?c5 ?_)
      case c1 =>
        intro j u hj
        refine World.news_of_block (B := wr.heap.size + 1) (cs := #[.string q.tok]) (t := 9) (fr := (0, 0)) ?_ j u hj
        rw [show wr.heap.size + 1 = (wr.alloc (.cells q.cells 57)).heap.size by simp]
        exact heap_alloc_new _ _
      case c2 => simp [Value.oneCell']
      case c3 => unfold maxLen; omega
      case c4 => omega
      case c5 => simp; omega
      intro v' w1 hown' hgrow _
      have HOWN1 := Lib.hid hown'
      have HGROW := Lib.hid hgrow
      clear hown' hgrow
      go_wp2_with fail
      refine ⟨⟨k + 1, by omega, by go_num, ?_, ?_⟩, by simp [intOf]; omega⟩
      · have := HOWN1.out
        rw [List.take_add_one, HQ.out]
        simpa using this
      · have h0 : Below w.heap.size w ((wr.alloc (.cells q.cells 57)).alloc (.cells #[.string q.tok] 9)) := (HBL.out.alloc hsz _).alloc (by simp; omega) _
        exact h0.grown HGROW.out (by simp; omega) (fun j hj => (HOWN.out.lt j hj).1)
    · obtain rfl : k = b.l.length := by omega
      have HOWN := Lib.hid hown
      have HBL := Lib.hid hb
      clear hown hb
      go_wp2_with fail
      go_ret
      refine ⟨u3, rfl, ?_, HBL.out⟩
      have := HOWN.out
      rw [List.take_length] at this
      exact this
end Go.Proofs.YtefacagkjcmeeaaDoor.I
