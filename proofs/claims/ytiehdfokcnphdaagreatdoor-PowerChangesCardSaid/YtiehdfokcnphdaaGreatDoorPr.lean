/- power: names (of a map of one user), read. -/
import Derived.Test.YtiehdfokcnphdaaGreatDoorPn
namespace Go.Proofs.YtiehdfokcnphdaaGreatDoor
open Go.RowKit

theorem infoN : (Tryz.prog.info? 91).map (fun i => (i.zero, i.size, i.bytes)) = some (some (.agg #[.string ⟨#[]⟩, .int .i64 0]), 2, 24) := by kernel_rfl

set_option maxRecDepth 100000 in
theorem names_one (w : World) (P : Nat → Prop) (x : V6) (m : Mb) (hx : x.kind = 5) (hrow : RowOf w P 48 7 x.map (mcells [m])) (hk : isB 2 m.key.data.toList = true) (hks : m.key.size < 4294967281) (hmk : m.v.kind = 2) (hm : Mx w) :
    Calls Tryz.prog 53 #[.agg x.cells, .bool true] w fun e w' => ∃ s : Sl, e = .returned (.tuple #[.slice s.a s.n s.c, .nilIface]) ∧ RowOf w' (fun g => w.heap.size ≤ g) 91 2 s (ncells [⟨m.key, m.v.int⟩]) ∧ Below w.heap.size w w' := by
  obtain ⟨xk, xy, xi, xt, xl, ⟨xa, xn, xc⟩⟩ := x
  dsimp only at hx hrow
  subst hx
  have hn : xn = 1 := hrow.1
  subst hn
  obtain ⟨r, rfl⟩ : ∃ r, xa = some ⟨r, 0, none⟩ := by
    rcases hrow.2.2 with ⟨hs, hn⟩ | ⟨r, h1, _⟩
    · simp at hn
    · exact ⟨r, h1⟩
  obtain ⟨_, hrl, hrw⟩ := hrow.at rfl
  have hyc : (mcells [m])[0]? = some m.cells.toList := rfl
  have c0 : w.cell? ⟨r, 0, none⟩ = some (.string m.key) := hrw.cell (d := 0) hyc rfl
  have c1 : w.cell? ⟨r, 1, none⟩ = some (.int .i64 m.v.kind) := hrw.cell (d := 1) hyc rfl
  have c2 : w.cell? ⟨r, 2, none⟩ = some (.bool m.v.yes) := hrw.cell (d := 2) hyc rfl
  have c3 : w.cell? ⟨r, 3, none⟩ = some (.int .i64 m.v.int) := hrw.cell (d := 3) hyc rfl
  have c4 : w.cell? ⟨r, 4, none⟩ = some (.string m.v.text) := hrw.cell (d := 4) hyc rfl
  have c5 : w.cell? ⟨r, 5, none⟩ = some (.slice m.v.list.a m.v.list.n m.v.list.c) := hrw.cell (d := 5) hyc rfl
  have c6 : w.cell? ⟨r, 6, none⟩ = some (.slice m.v.map.a m.v.map.n m.v.map.c) := hrw.cell (d := 6) hyc rfl
  rw [hmk] at c1
  have HIS := Lib.hid (fun (W : World) (h : Mx W) => is_calls W 2 m.key (by decide) hks h)
  have HK := Lib.hid hk
  have HM := Lib.hid hm
  have hpos := hm.pos
  obtain ⟨i0, hi, hz0, hz1, hz2⟩ := info_parts infoN
  have HI := Lib.hid hi
  have HZ0 := Lib.hid hz0
  have HZ1 := Lib.hid hz1
  have HZ2 := Lib.hid hz2
  clear hrow hrw hyc hk hm hi hz0 hz1 hz2
  go_enter Tryz.func53, Tryz.ntmps53
  go_wp2_with fail
  go_loopw [6, 16] (fun c6 c16 wr => (c16 = .int .i64 0 ∧ c6 = .slice none 0 0 ∧ wr = w.alloc (.cells #[.int .i64 5, .bool xy, .int .i64 xi, .string xt, .slice xl.a xl.n xl.c, .slice (some ⟨r, 0, none⟩) 1 xc] 44)) ∨
    (c16 = .int .i64 1 ∧ ∃ s : Sl, c6 = .slice s.a s.n s.c ∧ RowOf wr (fun g => w.heap.size ≤ g) 91 2 s (ncells [⟨m.key, m.v.int⟩]) ∧ Below w.heap.size w wr)) (fun _ i _ => 1 - (intOf i).toNat)
  case atStart => exact .inl ⟨rfl, rfl, rfl⟩
  case round =>
    rcases hrel with ⟨rfl, rfl, rfl⟩ | ⟨rfl, s, rfl, hrow, hb⟩
    · go_wp2_with fail
      obtain ⟨W2, hW2⟩ : ∃ W2, W2 = (w.alloc (.cells #[.int .i64 5, .bool xy, .int .i64 xi, .string xt, .slice xl.a xl.n xl.c, .slice (some ⟨r, 0, none⟩) 1 xc] 44)).alloc (.cells #[.string m.key, .int .i64 2, .bool m.v.yes, .int .i64 m.v.int, .string m.v.text, .slice m.v.list.a m.v.list.n m.v.list.c, .slice m.v.map.a m.v.map.n m.v.map.c] 48 (0, 0)) := ⟨_, rfl⟩
      rw [← hW2]
      have hbel : Below w.heap.size w W2 := by rw [hW2]; exact ((Below.refl _ _).alloc (Nat.le_refl _) _).alloc (by simp) _
      have hk2 : W2.heap[w.heap.size + 1]? = some (.cells #[.string m.key, .int .i64 2, .bool m.v.yes, .int .i64 m.v.int, .string m.v.text, .slice m.v.list.a m.v.list.n m.v.list.c, .slice m.v.map.a m.v.map.n m.v.map.c] 48 (0, 0)) := by
        rw [hW2]
        have := heap_new (w.alloc (.cells #[.int .i64 5, .bool xy, .int .i64 xi, .string xt, .slice xl.a xl.n xl.c, .slice (some ⟨r, 0, none⟩) 1 xc] 44)) (.cells #[.string m.key, .int .i64 2, .bool m.v.yes, .int .i64 m.v.int, .string m.v.text, .slice m.v.list.a m.v.list.n m.v.list.c, .slice m.v.map.a m.v.map.n m.v.map.c] 48 (0, 0))
        rw [show (w.alloc (.cells #[.int .i64 5, .bool xy, .int .i64 xi, .string xt, .slice xl.a xl.n xl.c, .slice (some ⟨r, 0, none⟩) 1 xc] 44)).heap.size = w.heap.size + 1 by simp] at this
        exact this
      have hs2 : W2.heap.size = w.heap.size + 2 := by rw [hW2]; simp
      have HB2 := Lib.hid hbel
      have HK2 := Lib.hid hk2
      have hI := HIS.out W2 (HM.out.below hbel hpos)
      rw [HK.out] at hI
      refine hI.mono ?_
      rintro e w3 ⟨rfl, hb⟩
      have hk3 := (hb.block (w.heap.size + 1) (by omega)).trans HK2.out
      have b0 : w3.cell? ⟨w.heap.size + 1, 0, none⟩ = some (.string m.key) := by simp [World.cell?, hk3]
      have b1 : w3.cell? ⟨w.heap.size + 1, 1, none⟩ = some (.int .i64 2) := by simp [World.cell?, hk3]
      have b3 : w3.cell? ⟨w.heap.size + 1, 3, none⟩ = some (.int .i64 m.v.int) := by simp [World.cell?, hk3]
      have HB3 := Lib.hid (HB2.out.trans (hb.mono (by omega)))
      have hs3 := HB3.out.size
      clear hb hk3 hk2 hbel hW2 HB2 HK2 HIS hI c0 c1 c2 c3 c4 c5 c6 hmk
      go_wp2_with (at_builtin; refine wpList_append_own _ rfl _ _ 31 rfl w.heap.size 91 i0 _ 2 24 Tryz.underlying31 HI.out HZ0.out HZ1.out HZ2.out rfl (by decide) _ 0 [] rfl ⟨rfl, .inl ⟨rfl, rfl⟩⟩ ⟨w3.heap.size, 0, none⟩ 1 1 [.string m.key, .int .i64 m.v.int] rfl rfl ?c1 ?c2 ?c3 ?c4 ?c5 ?_)
      case c1 =>
        intro j u hj
        exact World.news_of_block (B := w3.heap.size) (cs := #[.string m.key, .int .i64 m.v.int]) (t := 91) (fr := (0, 0)) (heap_new w3 _) j u hj
      case c2 => intro u hu; simp at hu; rcases hu with rfl | rfl <;> rfl
      case c3 => unfold maxLen; omega
      case c4 => omega
      case c5 => simp; omega
      intro v' w4 hown hg _
      obtain ⟨s, rfl, hrow⟩ := RowOf.of_own (l := ncells [⟨m.key, m.v.int⟩]) (by simpa using hown) (ncells_len _) (by decide) (by simp)
      have HROW := Lib.hid hrow
      have HB4 := Lib.hid ((HB3.out.alloc HB3.out.size (.cells #[.string m.key, .int .i64 m.v.int] 91)).grown hg (by simp; omega) (fun j hj => by simp [Value.ownBlock] at hj))
      clear hown hrow hg
      go_wp2_with fail
      exact ⟨.inr ⟨rfl, s, rfl, HROW.out, HB4.out⟩, by simp [intOf]⟩
    · have HROW := Lib.hid hrow
      have HB := Lib.hid hb
      clear hrow hb
      go_wp2_with fail
      go_ret2
      exact ⟨s, rfl, HROW.out, HB.out⟩
end Go.Proofs.YtiehdfokcnphdaaGreatDoor
