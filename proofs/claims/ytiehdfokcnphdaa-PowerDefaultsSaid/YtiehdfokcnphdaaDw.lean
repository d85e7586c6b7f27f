/- PowerDefaults, the walk. -/
import Derived.Test.YtiehdfokcnphdaaDq
import Derived.Test.YtiehdfokcnphdaaQa
namespace Go.Proofs.Ytiehdfokcnphdaa
open Go.RowKit

def toldMs (told : Nat → Bool) (n : Int) (i : Nat) : List Mb := ((List.range i).filter told).map fun j => ⟨keys7.getD j ⟨#[]⟩, ⟨2, false, n, ⟨#[]⟩, ⟨none, 0, 0⟩, ⟨none, 0, 0⟩⟩⟩
theorem toldMs_succ (told : Nat → Bool) (n : Int) (i : Nat) : toldMs told n (i + 1) = toldMs told n i ++ (if told i then [⟨keys7.getD i ⟨#[]⟩, ⟨2, false, n, ⟨#[]⟩, ⟨none, 0, 0⟩, ⟨none, 0, 0⟩⟩⟩] else []) := by
  unfold toldMs
  rw [List.range_succ, List.filter_append, List.map_append]
  by_cases h : told i = true
  · simp [h]
  · simp [h]
theorem toldMs_length (told : Nat → Bool) (n : Int) (i : Nat) : (toldMs told n i).length ≤ i := by
  unfold toldMs
  simp only [List.length_map]
  have := List.length_filter_le told (List.range i)
  simpa using this
theorem told_rep {w : World} {P : Nat → Prop} {s : Sl} (told : Nat → Bool) (n : Int) (h : RowOf w P 45 7 s (mcells (toldMs told n 7))) : RepV w P ⟨0, false, 0, ⟨#[]⟩, ⟨none, 0, 0⟩, s⟩ (.mk 0 false 0 ⟨#[]⟩ [] (toldM told n 7)) := by
  refine .mk ⟨0, false, 0, ⟨#[]⟩, ⟨none, 0, 0⟩, s⟩ [] (toldM told n 7) [] (toldMs told n 7) ⟨rfl, by simp, .inl ⟨rfl, rfl⟩⟩ h rfl (by simp [toldM, toldMs]) (by simp) ?_ ?_
  · intro i m kv hm hkv
    unfold toldMs at hm
    unfold toldM at hkv
    rw [List.getElem?_map] at hm hkv
    cases hj : ((List.range 7).filter told)[i]? with
    | none => rw [hj] at hm; cases hm
    | some j =>
      rw [hj] at hm hkv
      cases hm
      cases hkv
      rfl
  · intro i m kv hm hkv
    unfold toldMs at hm
    unfold toldM at hkv
    rw [List.getElem?_map] at hm hkv
    cases hj : ((List.range 7).filter told)[i]? with
    | none => rw [hj] at hm; cases hm
    | some j =>
      rw [hj] at hm hkv
      cases hm
      cases hkv
      exact RepV.leaf _ _ _ _ _ _

theorem keys_index (i : Nat) (hi : i < 7) (w : World) : (Instr.index 38 (.agg #[.string ⟨#[98, 97, 110]⟩, .string ⟨#[107, 105, 99, 107]⟩, .string ⟨#[114, 101, 100, 97, 99, 116]⟩, .string ⟨#[105, 110, 118, 105, 116, 101]⟩, .string ⟨#[115, 116, 97, 116, 101, 95, 100, 101, 102, 97, 117, 108, 116]⟩, .string ⟨#[101, 118, 101, 110, 116, 115, 95, 100, 101, 102, 97, 117, 108, 116]⟩, .string ⟨#[117, 115, 101, 114, 115, 95, 100, 101, 102, 97, 117, 108, 116]⟩]) (.int .i64 i)).run Try.prog w = .ok (.string (keys7.getD i ⟨#[]⟩)) w := by
  obtain rfl | rfl | rfl | rfl | rfl | rfl | rfl : i = 0 ∨ i = 1 ∨ i = 2 ∨ i = 3 ∨ i = 4 ∨ i = 5 ∨ i = 6 := by omega
  all_goals clear hi; kernel_rfl
theorem told_cell (told : Nat → Bool) (i : Nat) (hi : i < 7) : (#[Value.bool (told 0), .bool (told 1), .bool (told 2), .bool (told 3), .bool (told 4), .bool (told 5), .bool (told 6)] : Array Value)[i]? = some (.bool (told i)) := by
  obtain rfl | rfl | rfl | rfl | rfl | rfl | rfl : i = 0 ∨ i = 1 ∨ i = 2 ∨ i = 3 ∨ i = 4 ∨ i = 5 ∨ i = 6 := by omega
  all_goals rfl
theorem keys_size (i : Nat) : (keys7.getD i ⟨#[]⟩).size ≤ 20 := by
  by_cases hi : i < 7
  · obtain rfl | rfl | rfl | rfl | rfl | rfl | rfl : i = 0 ∨ i = 1 ∨ i = 2 ∨ i = 3 ∨ i = 4 ∨ i = 5 ∨ i = 6 := by omega
    all_goals decide
  · rw [List.getD_eq_getElem?_getD, List.getElem?_eq_none (by show 7 ≤ i; omega)]
    decide

def wantF : Nat → Int
  | 0 => 50 | 1 => 50 | 2 => 50 | 3 => 0 | 4 => 50 | _ => 0
theorem wants_index (i : Nat) (hi : i < 7) (w : World) : (Instr.index 22 (.agg #[.int .i64 50, .int .i64 50, .int .i64 50, .int .i64 0, .int .i64 50, .int .i64 0, .int .i64 0]) (.int .i64 i)).run Try.prog w = .ok (.int .i64 (wantF i)) w := by
  obtain rfl | rfl | rfl | rfl | rfl | rfl | rfl : i = 0 ∨ i = 1 ∨ i = 2 ∨ i = 3 ∨ i = 4 ∨ i = 5 ∨ i = 6 := by omega
  all_goals clear hi; kernel_rfl
theorem got_cell (told : Nat → Bool) (n v0 v1 v2 v3 v4 v5 v6 : Int) (h0 : (if told 0 = true then n else 50) = v0) (h1 : (if told 1 = true then n else 50) = v1) (h2 : (if told 2 = true then n else 50) = v2) (h3 : (if told 3 = true then n else 0) = v3) (h4 : (if told 4 = true then n else 50) = v4) (h5 : (if told 5 = true then n else 0) = v5) (h6 : (if told 6 = true then n else 0) = v6) (i : Nat) (hi : i < 7) :
    (#[Value.int .i64 v0, .int .i64 v1, .int .i64 v2, .int .i64 v3, .int .i64 v4, .int .i64 v5, .int .i64 v6] : Array Value)[i]? = some (.int .i64 (if told i = true then n else wantF i)) := by
  subst h0 h1 h2 h3 h4 h5 h6
  obtain rfl | rfl | rfl | rfl | rfl | rfl | rfl : i = 0 ∨ i = 1 ∨ i = 2 ∨ i = 3 ∨ i = 4 ∨ i = 5 ∨ i = 6 := by omega
  all_goals rfl

set_option maxRecDepth 100000 in
set_option maxHeartbeats 3200000 in
theorem defaults_in (w : World) (told : Nat → Bool) (n : Int) (hn1 : -9007199254740991 ≤ n) (hn2 : n ≤ 9007199254740991) (hm : Mx w) :
    Calls Try.prog 4 #[.agg #[.bool (told 0), .bool (told 1), .bool (told 2), .bool (told 3), .bool (told 4), .bool (told 5), .bool (told 6)], .int .i64 n] w fun e w' => e = .returned (.bool true) ∧ Below w.heap.size w w' := by
  have hpos := hm.pos
  have HA := Lib.hid (fun (W : World) (h : Below w.heap.size w W) => awake_calls W (hm.below h hpos))
  have HM := Lib.hid hm
  obtain ⟨i0, hi, hz0, hz1, hz2⟩ := info_parts infoM
  have HI := Lib.hid hi
  have HZ0 := Lib.hid hz0
  have HZ1 := Lib.hid hz1
  have HZ2 := Lib.hid hz2
  have g1 : decide ((9007199254740991 : Int) < n) = false := by simp; omega
  have g2 : decide (n < (-9007199254740991 : Int)) = false := by simp; omega
  clear hm hi hz0 hz1 hz2
  go_enter Try.func4, Try.ntmps4
  go_wp2_with fail
  obtain ⟨W0, hW0⟩ : ∃ W0, W0 = w.alloc (.cells #[.bool (told 0), .bool (told 1), .bool (told 2), .bool (told 3), .bool (told 4), .bool (told 5), .bool (told 6)] 37) := ⟨_, rfl⟩
  rw [← hW0]
  have hb0 : Below w.heap.size w W0 := by rw [hW0]; exact (Below.refl _ _).alloc (Nat.le_refl _) _
  have hq0 : W0.heap[w.heap.size]? = some (.cells #[.bool (told 0), .bool (told 1), .bool (told 2), .bool (told 3), .bool (told 4), .bool (told 5), .bool (told 6)] 37 (0, 0)) := by rw [hW0]; exact heap_new _ _
  clear hW0
  refine (HA.out W0 hb0).mono ?_
  rintro e W1 ⟨rfl, hb1⟩
  have hq1 := (hb1.block _ (Array.getElem?_eq_some_iff.1 hq0).1).trans hq0
  have HB1 := Lib.hid (hb0.trans (hb1.mono hb0.size))
  have HQ1 := Lib.hid hq1
  have hs1 := (Array.getElem?_eq_some_iff.1 hq1).1
  clear hb0 hq0 hb1 hq1 HA
  go_wp2_with fail
  obtain ⟨W2, hW2⟩ : ∃ W2, W2 = W1.alloc (.cells #[.string ⟨#[98, 97, 110]⟩, .string ⟨#[107, 105, 99, 107]⟩, .string ⟨#[114, 101, 100, 97, 99, 116]⟩, .string ⟨#[105, 110, 118, 105, 116, 101]⟩, .string ⟨#[115, 116, 97, 116, 101, 95, 100, 101, 102, 97, 117, 108, 116]⟩, .string ⟨#[101, 118, 101, 110, 116, 115, 95, 100, 101, 102, 97, 117, 108, 116]⟩, .string ⟨#[117, 115, 101, 114, 115, 95, 100, 101, 102, 97, 117, 108, 116]⟩] 38) := ⟨_, rfl⟩
  rw [← hW2]
  have hb2 : Below w.heap.size w W2 := by rw [hW2]; exact HB1.out.alloc HB1.out.size _
  have hq2e : W2.heap[w.heap.size]? = W1.heap[w.heap.size]? := by rw [hW2]; exact Below.heap_alloc _ _ _ hs1
  have hq2 := hq2e.trans HQ1.out
  have HB2 := Lib.hid hb2
  have HQ2 := Lib.hid hq2
  have hs2 := (Array.getElem?_eq_some_iff.1 hq2).1
  clear hW2 hb2 hq2 hq2e HB1 HQ1
  go_loopw [6, 29] (fun c6 c29 wr => ∃ i : Nat, i ≤ 7 ∧ c29 = .int .i64 i ∧ wr.ownsRow W2.heap.size 45 7 c6 (toldMs told n i).length (mcells (toldMs told n i)).flatten ∧ Below W2.heap.size W2 wr) (fun _ c29 _ => 7 - (intOf c29).toNat)
  case atStart => exact ⟨0, by omega, rfl, ⟨rfl, .inl ⟨rfl, rfl⟩⟩, Below.refl _ _⟩
  case round =>
    obtain ⟨i, hi, rfl, hown, hb⟩ := hrel
    have HB := Lib.hid hb
    have HOWN := Lib.hid hown
    have hbs := hb.size
    have hq := (hb.block _ hs2).trans HQ2.out
    have hqs := (Array.getElem?_eq_some_iff.1 hq).1
    have hml := toldMs_length told n i
    by_cases hlt : i < 7
    · have kc : wr.cell? ⟨w.heap.size, i, none⟩ = some (.bool (told i)) := cell_at hq (told_cell told i hlt)
      have hix := keys_index i hlt
      have HSU := Lib.hid (toldMs_succ told n i)
      obtain ⟨key, hkey⟩ : ∃ key, keys7.getD i ⟨#[]⟩ = key := ⟨_, rfl⟩
      rw [hkey] at hix HSU
      clear hown hb hq hkey
      cases ht : told i
      · rw [ht] at kc HSU
        rw [if_neg (by decide)] at HSU
        clear ht
        go_wp2_with fail
        refine ⟨⟨i + 1, by omega, by go_num, ?_, HB.out⟩, by simp [intOf]; omega⟩
        rw [HSU.out, List.append_nil]
        exact HOWN.out
      · rw [ht] at kc HSU
        rw [if_pos rfl] at HSU
        clear ht
        go_wp2_with (at_builtin; refine wpList_append_own _ rfl _ _ 39 rfl W2.heap.size 45 i0 _ 7 104 Try.underlying39 HI.out HZ0.out HZ1.out HZ2.out rfl (by decide) _ (toldMs told n i).length (mcells (toldMs told n i)).flatten rfl (HOWN.out.alloc _) ⟨wr.heap.size, 0, none⟩ 1 1 [.string key, .int .i64 2, .bool false, .int .i64 n, .string ⟨#[]⟩, .slice none 0 0, .slice none 0 0] rfl rfl ?c1 ?c2 ?c3 ?c4 ?c5 ?_)
        case c1 =>
          intro j u hj
          exact World.news_of_block (B := wr.heap.size) (cs := #[.string key, .int .i64 2, .bool false, .int .i64 n, .string ⟨#[]⟩, .slice none 0 0, .slice none 0 0]) (t := 45) (fr := (0, 0)) (heap_new wr _) j u hj
        case c2 => intro u hu; simp at hu; rcases hu with rfl | rfl | rfl | rfl | rfl | rfl | rfl <;> rfl
        case c3 => unfold maxLen; omega
        case c4 => omega
        case c5 => simp; omega
        intro v' w4 hown4 hg4 _
        have HOWN4 := Lib.hid hown4
        have HB4 := Lib.hid ((HB.out.alloc HB.out.size (.cells #[.string key, .int .i64 2, .bool false, .int .i64 n, .string ⟨#[]⟩, .slice none 0 0, .slice none 0 0] 45)).grown hg4 (by simp; omega) (fun j hj => (HOWN.out.lt j hj).1))
        clear hown4 hg4
        go_wp2_with fail
        refine ⟨⟨i + 1, by omega, by go_num, ?_, HB4.out⟩, by simp [intOf]; omega⟩
        have h1 : (mcells (toldMs told n (i + 1))).flatten = (mcells (toldMs told n i)).flatten ++ [.string key, .int .i64 2, .bool false, .int .i64 n, .string ⟨#[]⟩, .slice none 0 0, .slice none 0 0] := by
          rw [HSU.out]; simp [mcells]
        have h2 : (toldMs told n (i + 1)).length = (toldMs told n i).length + 1 := by rw [HSU.out]; simp
        rw [h1, h2]
        exact HOWN4.out
    · obtain rfl : i = 7 := by omega
      obtain ⟨s, rfl, hrow⟩ := RowOf.of_own hown (mcells_len _) (by decide) (by simp; omega)
      have hmc := members_calls wr _ s (toldM told n 7) (by have := toldM_length told n 7; omega) (toldM_nodup told n) (told_rep told n hrow)
      have HMC := Lib.hid hmc
      have HQ := Lib.hid hq
      have hbw : Below w.heap.size w wr := HB2.out.trans (hb.mono HB2.out.size)
      have HBW := Lib.hid hbw
      clear hmc hrow hown hb hq hbw HOWN hml
      go_wp2_with fail
      refine HMC.out.mono ?_
      rintro e w5 ⟨x1, M1, rfl, hx1, hp1, hb5⟩
      have HX1 := Lib.hid (show RepV w5 _ x1 (vTold M1) from hx1)
      have HP1 := Lib.hid hp1
      have HB5 := Lib.hid (HBW.out.trans (hb5.mono HBW.out.size))
      have hq5 := (hb5.block _ hqs).trans HQ.out
      have HQ5 := Lib.hid hq5
      have hqs5 := (Array.getElem?_eq_some_iff.1 hq5).1
      clear hx1 hp1 hb5 hq5 HMC HB HQ
      go_wp2_with fail
      have hb6 : Below w.heap.size w (w5.alloc (.cells x1.cells 43)) := HB5.out.alloc HB5.out.size _
      have hrd := read_calls (w5.alloc (.cells x1.cells 43)) _ x1 (vTold M1) [] (HX1.out.same (by simp) (fun g hg _ => Below.heap_alloc _ _ _ hg)) rfl (fun i key j u _ hu => told_kind told n HP1.out key u hu) (told_events told n HP1.out) (told_users told n HP1.out) (HM.out.below hb6 hpos)
      refine hrd.mono ?_
      rintro e w7 ⟨s', rfl, hrow7, hb7⟩
      have HROW7 := Lib.hid hrow7
      have HB7 := Lib.hid (hb6.trans (hb7.mono hb6.size))
      have hq7 := (hb7.block w.heap.size (by simp; omega)).trans ((Below.heap_alloc _ _ _ hqs5).trans HQ5.out)
      have HQ7 := Lib.hid hq7
      have hqs7 := (Array.getElem?_eq_some_iff.1 hq7).1
      obtain ⟨v0, hv0⟩ : ∃ v : Int, (if told 0 = true then n else 50) = v := ⟨_, rfl⟩
      obtain ⟨v1, hv1⟩ : ∃ v : Int, (if told 1 = true then n else 50) = v := ⟨_, rfl⟩
      obtain ⟨v2, hv2⟩ : ∃ v : Int, (if told 2 = true then n else 50) = v := ⟨_, rfl⟩
      obtain ⟨v3, hv3⟩ : ∃ v : Int, (if told 3 = true then n else 0) = v := ⟨_, rfl⟩
      obtain ⟨v4, hv4⟩ : ∃ v : Int, (if told 4 = true then n else 50) = v := ⟨_, rfl⟩
      obtain ⟨v5, hv5⟩ : ∃ v : Int, (if told 5 = true then n else 0) = v := ⟨_, rfl⟩
      obtain ⟨v6, hv6⟩ : ∃ v : Int, (if told 6 = true then n else 0) = v := ⟨_, rfl⟩
      rw [told_lv told n HP1.out, hv0, hv1, hv2, hv3, hv4, hv5, hv6]
      have HV0 := Lib.hid hv0
      have HV1 := Lib.hid hv1
      have HV2 := Lib.hid hv2
      have HV3 := Lib.hid hv3
      have HV4 := Lib.hid hv4
      have HV5 := Lib.hid hv5
      have HV6 := Lib.hid hv6
      clear hb6 hrd hrow7 hb7 hq7 HX1 HP1 HB5 HQ5 hv0 hv1 hv2 hv3 hv4 hv5 hv6
      simp only [Lv.cells]
      go_wp2_with fail
      obtain ⟨W8, hW8⟩ : ∃ W8, W8 = (w7.alloc (.cells #[.int .i64 v0, .int .i64 v1, .int .i64 v2, .int .i64 v3, .int .i64 v4, .int .i64 v5, .int .i64 v6, .slice none 0 0, .slice s'.a s'.n s'.c] 30)).alloc (.cells #[.int .i64 v0, .int .i64 v1, .int .i64 v2, .int .i64 v3, .int .i64 v4, .int .i64 v5, .int .i64 v6] 22) := ⟨_, rfl⟩
      rw [← hW8]
      have hb8 : Below w.heap.size w W8 := by rw [hW8]; exact (HB7.out.alloc HB7.out.size _).alloc (by have := HB7.out.size; simp; omega) _
      have hz8 : W8.heap.size = w7.heap.size + 2 := by rw [hW8]; simp
      have hx8 : W8.heap[w7.heap.size]? = some (.cells #[.int .i64 v0, .int .i64 v1, .int .i64 v2, .int .i64 v3, .int .i64 v4, .int .i64 v5, .int .i64 v6, .slice none 0 0, .slice s'.a s'.n s'.c] 30 (0, 0)) := by rw [hW8]; exact (Below.heap_alloc _ _ _ (by simp)).trans (heap_new _ _)
      have hg8 : W8.heap[w7.heap.size + 1]? = some (.cells #[.int .i64 v0, .int .i64 v1, .int .i64 v2, .int .i64 v3, .int .i64 v4, .int .i64 v5, .int .i64 v6] 22 (0, 0)) := by
        rw [hW8]
        have := heap_new (w7.alloc (.cells #[.int .i64 v0, .int .i64 v1, .int .i64 v2, .int .i64 v3, .int .i64 v4, .int .i64 v5, .int .i64 v6, .slice none 0 0, .slice s'.a s'.n s'.c] 30 (0, 0))) (.cells #[.int .i64 v0, .int .i64 v1, .int .i64 v2, .int .i64 v3, .int .i64 v4, .int .i64 v5, .int .i64 v6] 22 (0, 0))
        rw [show (w7.alloc (.cells #[.int .i64 v0, .int .i64 v1, .int .i64 v2, .int .i64 v3, .int .i64 v4, .int .i64 v5, .int .i64 v6, .slice none 0 0, .slice s'.a s'.n s'.c] 30 (0, 0))).heap.size = w7.heap.size + 1 by simp] at this
        exact this
      have ht8 : W8.heap[w.heap.size]? = some (.cells #[.bool (told 0), .bool (told 1), .bool (told 2), .bool (told 3), .bool (told 4), .bool (told 5), .bool (told 6)] 37 (0, 0)) := by rw [hW8]; exact (Below.heap_alloc _ _ _ (by simp; omega)).trans ((Below.heap_alloc _ _ _ hqs7).trans HQ7.out)
      have hrow8 := HROW7.out.same (w' := W8) (by omega) (fun k hk _ => by rw [hW8]; exact (Below.heap_alloc _ _ _ (by simp; omega)).trans (Below.heap_alloc _ _ _ hk))
      have HB8 := Lib.hid hb8
      have HX8 := Lib.hid hx8
      have HG8 := Lib.hid hg8
      have HT8 := Lib.hid ht8
      have HROW8 := Lib.hid hrow8
      clear hW8 hb8 hx8 hg8 ht8 hrow8 HROW7 HB7 HQ7
      go_loop [14, 15, 76, 77, 78, 79, 80, 81, 82, 83, 84, 85, 86, 87, 88, 89] (fun _ _ c _ _ _ _ _ _ _ _ _ _ _ _ _ => ∃ i : Nat, i ≤ 7 ∧ c = .int .i64 i) (fun _ _ c _ _ _ _ _ _ _ _ _ _ _ _ _ => 7 - (intOf c).toNat)
      case atStart => exact ⟨0, by omega, rfl⟩
      case round =>
        obtain ⟨i, hi, rfl⟩ := hrel
        by_cases hlt : i < 7
        · have kt : W8.cell? ⟨w.heap.size, i, none⟩ = some (.bool (told i)) := cell_at HT8.out (told_cell told i hlt)
          have kg : W8.cell? ⟨w7.heap.size + 1, i, none⟩ = some (.int .i64 (if told i = true then n else wantF i)) := cell_at HG8.out (got_cell told n v0 v1 v2 v3 v4 v5 v6 HV0.out HV1.out HV2.out HV3.out HV4.out HV5.out HV6.out i hlt)
          have hix := wants_index i hlt
          obtain ⟨wi, hwi⟩ : ∃ wi, wantF i = wi := ⟨_, rfl⟩
          rw [hwi] at hix kg
          clear hwi
          cases ht : told i
          · rw [ht, if_neg (by decide)] at kg
            rw [ht] at kt
            clear ht
            go_wp2_with fail
            go_round
            case rel => exact ⟨i + 1, by omega, by go_num⟩
            case measure => simp [intOf]; omega
          · rw [ht, if_pos rfl] at kg
            rw [ht] at kt
            clear ht
            go_wp2_with fail
            go_round
            case rel => exact ⟨i + 1, by omega, by go_num⟩
            case measure => simp [intOf]; omega
        · obtain rfl : i = 7 := by omega
          go_wp2_with fail
          have HXU := Lib.hid (fun (W : World) (h : Below W8.heap.size W8 W) => user_calls W _ ⟨v0, v1, v2, v3, v4, v5, v6, ⟨none, 0, 0⟩, s'⟩ [] sAnn (HROW8.out.same h.size (fun k hk _ => h.block k hk)))
          have HXT := Lib.hid (fun (W : World) (_ : Below W8.heap.size W8 W) => needs_calls W (fun _ => True) ⟨v0, v1, v2, v3, v4, v5, v6, ⟨none, 0, 0⟩, s'⟩ [] ⟨#[97]⟩ true ⟨rfl, by simp, .inl ⟨rfl, rfl⟩⟩)
          have HXF := Lib.hid (fun (W : World) (_ : Below W8.heap.size W8 W) => needs_calls W (fun _ => True) ⟨v0, v1, v2, v3, v4, v5, v6, ⟨none, 0, 0⟩, s'⟩ [] ⟨#[97]⟩ false ⟨rfl, by simp, .inl ⟨rfl, rfl⟩⟩)
          have hn1' : (findN [] sAnn).getD v6 = v6 := rfl
          have hn2' : (findN [] ⟨#[97]⟩).getD v4 = v4 := rfl
          have hn3' : (findN [] ⟨#[97]⟩).getD v5 = v5 := rfl
          simp only [hn1', hn2', hn3', if_true, Bool.false_eq_true, if_false] at HXU HXT HXF
          clear hn1' hn2' hn3'
          have hl8 := (Array.getElem?_eq_some_iff.1 HX8.out).1
          have hg8 := (Array.getElem?_eq_some_iff.1 HG8.out).1
          have fp0 : ∀ p : BelW W8, p.world.cell? ⟨w7.heap.size, 0, none⟩ = some (.int .i64 v0) := fun p => (p.h.cell (p := ⟨w7.heap.size, 0, none⟩) hl8).trans (cell_at HX8.out rfl)
          have fp1 : ∀ p : BelW W8, p.world.cell? ⟨w7.heap.size, 1, none⟩ = some (.int .i64 v1) := fun p => (p.h.cell (p := ⟨w7.heap.size, 1, none⟩) hl8).trans (cell_at HX8.out rfl)
          have fp2 : ∀ p : BelW W8, p.world.cell? ⟨w7.heap.size, 2, none⟩ = some (.int .i64 v2) := fun p => (p.h.cell (p := ⟨w7.heap.size, 2, none⟩) hl8).trans (cell_at HX8.out rfl)
          have fp3 : ∀ p : BelW W8, p.world.cell? ⟨w7.heap.size, 3, none⟩ = some (.int .i64 v3) := fun p => (p.h.cell (p := ⟨w7.heap.size, 3, none⟩) hl8).trans (cell_at HX8.out rfl)
          have fp4 : ∀ p : BelW W8, p.world.cell? ⟨w7.heap.size, 4, none⟩ = some (.int .i64 v4) := fun p => (p.h.cell (p := ⟨w7.heap.size, 4, none⟩) hl8).trans (cell_at HX8.out rfl)
          have fp5 : ∀ p : BelW W8, p.world.cell? ⟨w7.heap.size, 5, none⟩ = some (.int .i64 v5) := fun p => (p.h.cell (p := ⟨w7.heap.size, 5, none⟩) hl8).trans (cell_at HX8.out rfl)
          have fp6 : ∀ p : BelW W8, p.world.cell? ⟨w7.heap.size, 6, none⟩ = some (.int .i64 v6) := fun p => (p.h.cell (p := ⟨w7.heap.size, 6, none⟩) hl8).trans (cell_at HX8.out rfl)
          have fp7 : ∀ p : BelW W8, p.world.cell? ⟨w7.heap.size, 7, none⟩ = some (.slice none 0 0) := fun p => (p.h.cell (p := ⟨w7.heap.size, 7, none⟩) hl8).trans (cell_at HX8.out rfl)
          have fp8 : ∀ p : BelW W8, p.world.cell? ⟨w7.heap.size, 8, none⟩ = some (.slice s'.a s'.n s'.c) := fun p => (p.h.cell (p := ⟨w7.heap.size, 8, none⟩) hl8).trans (cell_at HX8.out rfl)
          have fq4 : ∀ p : BelW W8, p.world.cell? ⟨w7.heap.size + 1, 4, none⟩ = some (.int .i64 v4) := fun p => (p.h.cell (p := ⟨w7.heap.size + 1, 4, none⟩) hg8).trans (cell_at HG8.out rfl)
          have fq5 : ∀ p : BelW W8, p.world.cell? ⟨w7.heap.size + 1, 5, none⟩ = some (.int .i64 v5) := fun p => (p.h.cell (p := ⟨w7.heap.size + 1, 5, none⟩) hg8).trans (cell_at HG8.out rfl)
          have fq6 : ∀ p : BelW W8, p.world.cell? ⟨w7.heap.size + 1, 6, none⟩ = some (.int .i64 v6) := fun p => (p.h.cell (p := ⟨w7.heap.size + 1, 6, none⟩) hg8).trans (cell_at HG8.out rfl)
          clear hl8 hg8 hqs hqs5 hqs7 hz8 hi hlt
          refine wp_region_quiet_bel (by kernel_rfl) (by kernel_rfl) ?_
          repeat (quiet_step (first
            | with_reducible exact Calls.bel_of (HXU.out _ (BelW.h _))
            | with_reducible exact Calls.bel_of (HXT.out _ (BelW.h _))
            | with_reducible exact Calls.bel_of (HXF.out _ (BelW.h _))))
          refine wpQuiet_nil ?_
          intro _ hw'
          obtain ⟨p, rfl⟩ := hw'
          have HP := Lib.hid (HB8.out.trans (p.h.mono HB8.out.size))
          clear fp0 fp1 fp2 fp3 fp4 fp5 fp6 fp7 fp8 fq4 fq5 fq6 HXU HXT HXF
          go_wp2_with fail
          go_ret
          exact ⟨rfl, HP.out⟩
set_option maxRecDepth 100000 in
set_option maxHeartbeats 1600000 in
theorem defaults_out (w : World) (told : Nat → Bool) (n : Int) (hn : 9007199254740991 < n ∨ (n ≤ 9007199254740991 ∧ n < -9007199254740991)) (hm : Mx w) :
    Calls Try.prog 4 #[.agg #[.bool (told 0), .bool (told 1), .bool (told 2), .bool (told 3), .bool (told 4), .bool (told 5), .bool (told 6)], .int .i64 n] w fun e w' => e = .returned (.bool true) ∧ Below w.heap.size w w' := by
  have hpos := hm.pos
  have HA := Lib.hid (fun (W : World) (h : Below w.heap.size w W) => awake_calls W (hm.below h hpos))
  clear hm
  rcases hn with hn | ⟨hn1, hn2⟩
  · have g1 : decide ((9007199254740991 : Int) < n) = true := by simp; omega
    clear hn
    go_enter Try.func4, Try.ntmps4
    go_wp2_with fail
    have hb0 : Below w.heap.size w (w.alloc (.cells #[.bool (told 0), .bool (told 1), .bool (told 2), .bool (told 3), .bool (told 4), .bool (told 5), .bool (told 6)] 37)) := (Below.refl _ _).alloc (Nat.le_refl _) _
    refine (HA.out _ hb0).mono ?_
    rintro e W1 ⟨rfl, hb1⟩
    have HB1 := Lib.hid (hb0.trans (hb1.mono hb0.size))
    clear hb0 hb1
    go_wp2_with fail
    refine (HA.out W1 HB1.out).mono ?_
    rintro e W2 ⟨rfl, hb2⟩
    have HB2 := Lib.hid (HB1.out.trans (hb2.mono HB1.out.size))
    clear hb2
    go_wp2_with fail
    go_ret
    exact ⟨rfl, HB2.out⟩
  · have g1 : decide ((9007199254740991 : Int) < n) = false := by simp; omega
    have g2 : decide (n < (-9007199254740991 : Int)) = true := by simp; omega
    clear hn1 hn2
    go_enter Try.func4, Try.ntmps4
    go_wp2_with fail
    have hb0 : Below w.heap.size w (w.alloc (.cells #[.bool (told 0), .bool (told 1), .bool (told 2), .bool (told 3), .bool (told 4), .bool (told 5), .bool (told 6)] 37)) := (Below.refl _ _).alloc (Nat.le_refl _) _
    refine (HA.out _ hb0).mono ?_
    rintro e W1 ⟨rfl, hb1⟩
    have HB1 := Lib.hid (hb0.trans (hb1.mono hb0.size))
    clear hb0 hb1
    go_wp2_with fail
    refine (HA.out W1 HB1.out).mono ?_
    rintro e W2 ⟨rfl, hb2⟩
    have HB2 := Lib.hid (HB1.out.trans (hb2.mono HB1.out.size))
    clear hb2
    go_wp2_with fail
    go_ret
    exact ⟨rfl, HB2.out⟩
theorem defaults_calls (w : World) (told : Nat → Bool) (n : Int) (hm : Mx w) :
    Calls Try.prog 4 #[.agg #[.bool (told 0), .bool (told 1), .bool (told 2), .bool (told 3), .bool (told 4), .bool (told 5), .bool (told 6)], .int .i64 n] w fun e w' => e = .returned (.bool true) ∧ Below w.heap.size w w' := by
  by_cases h1 : n ≤ 9007199254740991
  · by_cases h2 : -9007199254740991 ≤ n
    · exact defaults_in w told n h2 h1 hm
    · exact defaults_out w told n (.inr ⟨h1, by omega⟩) hm
  · exact defaults_out w told n (.inl (by omega)) hm
end Go.Proofs.Ytiehdfokcnphdaa
