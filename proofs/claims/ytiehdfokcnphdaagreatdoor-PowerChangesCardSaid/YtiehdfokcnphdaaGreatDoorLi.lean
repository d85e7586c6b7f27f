/- The document's lists: the least name that may not be changed. -/
import Derived.Test.YtiehdfokcnphdaaGreatDoorLy
import Derived.Test.YtiehdfokcnphdaaGreatDoorPy
import Derived.Test.YtiehdfokcnphdaaGreatDoorAp
set_option linter.unusedVariables false
set_option linter.unusedSimpArgs false
namespace Go.Proofs.YtiehdfokcnphdaaGreatDoor
open Go.RowKit Go.Shelf Go.Sort

/-- Rows that a slice that came in shows. -/
def SrcI (w : World) (sz : Nat) (a : Option Addr) (m : Nat) (l : List (List Value)) : Prop :=
  m = l.length ∧ (∀ x ∈ l, x.length = sz) ∧ (∀ u ∈ l.flatten, u.oneCell' = true) ∧ ((a = none ∧ m = 0) ∨ ∃ ad, a = some ad ∧ ∀ j u, l.flatten[j]? = some u → w.cell? (ad.add j) = some u)
theorem run_append_nothing {P : Program} {w : World} (base : Nat) (t ty e : TypeId) (i : TypeInfo) (size c : Nat) (ht : P.underlying t = some (.slice e)) (hi : P.info? e = some i)
    (v : Value) (n : Nat) (xs : List Value) (hown : w.ownsRow base e size v n xs) :
    (Builtin.append_ #[t, t] ty #[v, .slice none 0 c]).run P w = .ok v w := by
  rcases hown.2 with ⟨rfl, rfl⟩ | ⟨g, cap, cur, rfl, _, _, hnc, _⟩
  · simp [Builtin.append_, run_underlying ht, sizeOf, typeInfo, hi, Builtin.lenOf, Builtin.firstCells]
  · simp [Builtin.append_, run_underlying ht, sizeOf, typeInfo, hi, Builtin.lenOf, Builtin.firstCells, hnc, storeCells]
theorem run_append_srcI {P : Program} (w : World) (t ty : TypeId) (base : Nat) (e : TypeId) (i : TypeInfo) (z : Value) (size bytes : Nat) (ht : P.underlying t = some (.slice e)) (hi : P.info? e = some i) (hz : i.zero = some z)
    (hsize : i.size = size) (hby : i.bytes = bytes) (hzs : z.cells.size = size) (hsz : 0 < size)
    (v : Value) (n : Nat) (xs : List Value) (hown : w.ownsRow base e size v n xs) (a : Option Addr) (m c : Nat) (l : List (List Value)) (hs : SrcI w size a m l)
    (h63 : n + m ≤ maxLen) (hbytes : (n + m) * bytes ≤ 140737488355328) (hbase : base ≤ w.heap.size) :
    ∃ v' w', (Builtin.append_ #[t, t] ty #[v, .slice a m c]).run P w = .ok v' w' ∧ w'.ownsRow base e size v' (n + m) (xs ++ l.flatten) ∧ w.grownBy w' v.ownBlock := by
  obtain ⟨h1, h2, h3, h4⟩ := hs
  rcases h4 with ⟨rfl, rfl⟩ | ⟨ad, rfl, h5⟩
  · have hl : l = [] := List.length_eq_zero_iff.1 h1.symm
    subst hl
    have hr := run_append_nothing (P := P) base t ty e i size c ht hi v n xs hown
    exact ⟨v, w, hr, by simpa using hown, grown_refl w _⟩
  · obtain ⟨v', w', hr, h6, h7, _, h9⟩ := run_append_own_at (P := P) w base t ty e i z size bytes ht hi hz hsize hby hzs hsz v n xs hown ad m c l.flatten (by rw [flatten_len h2, h1]) h5 h3 h63 hbytes hbase
    exact ⟨v', w', hr, h6, h7⟩
section
variable {P : Program} (w : World)
theorem wpList_append_srcI {ops : Array Oper} {rest : List Oper} {o : Oper} {a : Act} {Q : Exit → Act → World → Prop} (hgd : o.guard = none) (s x : Operand) (t : TypeId)
    (ho : o.op = .call { callee := .builtin .append, args := #[s, x], argTypes := #[t, t] })
    (base : Nat) (e : TypeId) (i : TypeInfo) (z : Value) (size bytes : Nat) (ht : P.underlying t = some (.slice e)) (hi : P.info? e = some i) (hz : i.zero = some z)
    (hsize : i.size = size) (hby : i.bytes = bytes) (hzs : z.cells.size = size) (hsz : 0 < size)
    (v : Value) (n : Nat) (xs : List Value) (hv : a.eval s = v) (hown : w.ownsRow base e size v n xs)
    (b : Option Addr) (m c : Nat) (l : List (List Value)) (hx : a.eval x = .slice b m c) (hs : SrcI w size b m l)
    (h63 : n + m ≤ maxLen) (hbytes : (n + m) * bytes ≤ 140737488355328) (hbase : base ≤ w.heap.size)
    (h : ∀ v' w', w'.ownsRow base e size v' (n + m) (xs ++ l.flatten) → w.grownBy w' v.ownBlock → wpList P ops Q rest (a.put o.dst v') w') : wpList P ops Q (o :: rest) a w :=
  wpList_plain hgd fun _ hK => by
    obtain ⟨v', w', hr, h2, h3⟩ := run_append_srcI (P := P) w t o.type base e i z size bytes ht hi hz hsize hby hzs hsz v n xs hown b m c l hs h63 hbytes hbase
    unfold Oper.wp execOp
    simp only [ho, resolve, invoke, builtin, Sem.run_bind, Sem.run_pure, Result.andThen_ok, List.map_toArray, List.map_cons, List.map_nil, hv, hx, hr]
    exact hK _ _ (h v' w' h2 h3)
end
theorem oneN (l : List Nm) : ∀ u ∈ (ncells l).flatten, u.oneCell' = true := by
  intro u hu
  obtain ⟨x, hx, hxu⟩ := List.mem_flatten.1 hu
  obtain ⟨y, _, rfl⟩ := List.mem_map.1 hx
  simp at hxu
  rcases hxu with rfl | rfl <;> rfl
theorem InN.src {w : World} {a : Option Addr} {l : List Nm} (h : InN w a l.length l) : SrcI w 2 a l.length (ncells l) := by
  refine ⟨by simp, ncells_len l, oneN l, ?_⟩
  by_cases hl : 0 < l.length
  · obtain ⟨x, ha, _, hc⟩ := h.2.2 hl
    refine .inr ⟨x, ha, fun j u hj => ?_⟩
    have hjl : j < (ncells l).flatten.length := (List.getElem?_eq_some_iff.1 hj).1
    rw [flatten_len (ncells_len l)] at hjl
    have hq : j / 2 < l.length := by simp at hjl; omega
    obtain ⟨y, hy⟩ : ∃ y, l[j / 2]? = some y := ⟨_, List.getElem?_eq_getElem hq⟩
    have hyc : (ncells l)[j / 2]? = some y.cells.toList := by simp [hy]
    have hjx := flatten_at (ncells_len l) (j / 2) (j % 2) _ hyc (Nat.mod_lt _ (by omega))
    rw [show j / 2 * 2 + j % 2 = j by omega, hj] at hjx
    obtain ⟨c0, c1⟩ := hc _ y hy
    rcases Nat.mod_two_eq_zero_or_one j with h0 | h1
    · rw [h0] at hjx
      have hu : u = .string y.name := by simpa using hjx
      rw [show j = j / 2 * 2 by omega, hu]
      exact c0
    · rw [h1] at hjx
      have hu : u = .int .i64 y.level := by simpa using hjx
      have hadd : (x.add j) = ⟨(x.add (j / 2 * 2)).block, (x.add (j / 2 * 2)).off + 1, none⟩ := by
        unfold Addr.add
        rw [if_neg (by omega)]
        split
        · next h => simp
        · simp; omega
      rw [hadd, hu]
      exact c1
  · have : l = [] := List.length_eq_zero_iff.1 (by omega)
    subst this
    cases a with
    | none => exact .inl ⟨rfl, rfl⟩
    | some x => exact .inr ⟨x, rfl, fun j u hj => by simp at hj⟩
theorem infoR : (Tryz.prog.info? 55).map (fun i => (i.zero, i.size, i.bytes)) = some (some (.agg #[.string ⟨#[]⟩, .int .i64 0]), 2, 24) := by kernel_rfl
theorem ncells_app (l1 l2 : List Nm) : (ncells (l1 ++ l2)).flatten = (ncells l1).flatten ++ (ncells l2).flatten := by simp [ncells]
/-- The best so far, in its two slots. -/
def Best : Option ByteArray → Value → Value → Prop
  | none, c, d => c = .string ⟨#[]⟩ ∧ d = .bool false
  | some n, c, d => c = .string n ∧ d = .bool true
set_option maxRecDepth 100000 in
set_option maxHeartbeats 8000000 in
theorem rlists_calls (w : World) (a1 a2 : Option Addr) (e1 e2 : Nat) (l1 l2 : List Nm) (b : ByteArray) (p : Int) (u : Bool) (h1 : InN w a1 l1.length l1) (h2 : InN w a2 l2.length l2) (hk : l1.length + l2.length ≤ 1000000) :
    Calls Tryz.prog 25 #[.slice a1 l1.length e1, .slice a2 l2.length e2, .string b, .int .i64 p, .bool u] w fun e w' => e = .returned (.tuple #[.string ((leastN b p u l1 l2).getD ⟨#[]⟩), .bool (leastN b p u l1 l2).isSome]) ∧ Below w.heap.size w w' := by
  have HI1 := Lib.hid h1
  have HI2 := Lib.hid h2
  obtain ⟨i0, hi, hz0, hz1, hz2⟩ := info_parts infoR
  have HI := Lib.hid hi
  have HZ0 := Lib.hid hz0
  have HZ1 := Lib.hid hz1
  have HZ2 := Lib.hid hz2
  clear h1 h2 hi hz0 hz1 hz2
  go_enter Tryz.func25, Tryz.ntmps25
  go_wp2_with (at_builtin; refine wpList_append_srcI _ rfl _ _ 23 rfl w.heap.size 55 i0 _ 2 24 Tryz.underlying23 HI.out HZ0.out HZ1.out HZ2.out rfl (by decide) _ 0 [] rfl ⟨rfl, .inr ⟨w.heap.size, 0, #[], rfl, Nat.le_refl _, by exact heap_new _ _, by omega, by decide, rfl, rfl⟩⟩ a1 l1.length e1 (ncells l1) rfl ?c1 ?c2 ?c3 ?c4 ?_)
  case c1 => exact (HI1.out.below ((Below.refl _ _).alloc (Nat.le_refl _) _) rfl).src
  case c2 => unfold maxLen; omega
  case c3 => omega
  case c4 => simp
  intro v1 w1 ho1 hg1
  have hb1 : Below w.heap.size w w1 := ((Below.refl _ _).alloc (Nat.le_refl _) _).grown hg1 (by simp) (fun j hj => by simp [Value.ownBlock] at hj; omega)
  have HO1 := Lib.hid ho1
  have HB1 := Lib.hid hb1
  clear ho1 hg1 hb1
  go_wp2_with (at_builtin; refine wpList_append_srcI _ rfl _ _ 23 rfl w.heap.size 55 i0 _ 2 24 Tryz.underlying23 HI.out HZ0.out HZ1.out HZ2.out rfl (by decide) v1 l1.length (ncells l1).flatten rfl HO1.out a2 l2.length e2 (ncells l2) rfl ?d1 ?d2 ?d3 ?d4 ?_)
  case d1 => exact (HI2.out.below HB1.out rfl).src
  case d2 => unfold maxLen; omega
  case d3 => omega
  case d4 => exact HB1.out.size
  intro v2 w2 ho2 hg2
  obtain ⟨ll, hll⟩ : ∃ ll, ll = l1 ++ l2 := ⟨_, rfl⟩
  rw [← ncells_app, ← hll] at ho2
  have hlen : l1.length + l2.length = ll.length := by rw [hll, List.length_append]
  obtain ⟨⟨A, n, c⟩, rfl, hr⟩ := RowOf.of_own ho2 (ncells_len _) (by decide) (by simp; omega)
  have hb2 := HB1.out.grown hg2 HB1.out.size (fun j hj => (HO1.out.lt j hj).1)
  have hn : n = ll.length := by have := hr.1; simpa using this
  subst hn
  have HR := Lib.hid hr
  have HB2 := Lib.hid hb2
  have HLL := Lib.hid hll
  have hkl : ll.length ≤ 1000000 := by omega
  clear ho2 hg2 hll hr hb2 HO1 hlen
  simp only [Sl.val]
  go_wp2_with fail
  go_loopw [12, 13, 29] (fun c12 c13 c29 wr => ∃ k : Nat, k ≤ ll.length ∧ c29 = .int .i64 k ∧ Best (leastOf b p u l1 l2 (ll.take k)) c12 c13 ∧ Below w2.heap.size w2 wr) (fun _ _ c29 _ => ll.length - (intOf c29).toNat)
  case atStart => exact ⟨0, by omega, rfl, ⟨rfl, rfl⟩, Below.refl _ _⟩
  case round =>
    obtain ⟨k, hk2, rfl, hbest, hb⟩ := hrel
    by_cases hlt : k < ll.length
    · obtain ⟨z, hz⟩ : ∃ z, ll[k]? = some z := ⟨_, List.getElem?_eq_getElem hlt⟩
      obtain ⟨r, ha⟩ : ∃ r, A = some ⟨r, 0, none⟩ := by
        rcases HR.out.2.2 with ⟨_, hnil⟩ | ⟨r, h1, _⟩
        · have := congrArg List.length hnil; simp at this; subst this; simp at hlt
        · exact ⟨r, h1⟩
      obtain ⟨_, hrl, hrw⟩ := (HR.out.same hb.size (fun g hg _ => hb.block g hg)).at ha
      have hyc : (ncells ll)[k]? = some z.cells.toList := by simp [hz]
      have c0 : wr.cell? ⟨r, k * 2, none⟩ = some (.string z.name) := hrw.cell (d := 0) hyc rfl
      have HBR := Lib.hid hb
      have HBW := Lib.hid (HB2.out.trans (hb.mono HB2.out.size))
      have HST := Lib.hid (show leastOf b p u l1 l2 (ll.take (k + 1)) = leastStep b p u l1 l2 (leastOf b p u l1 l2 (ll.take k)) z by rw [List.take_add_one, hz]; exact leastOf_snoc _ _ _ _ _ _ _)
      have HF1 := Lib.hid (rfind_calls wr a1 e1 l1 z.name (HI1.out.below HBW.out rfl))
      have HFF := Lib.hid (fun (W : World) (hW : Below w2.heap.size w2 W) => rfind_calls W a2 e2 l2 z.name (HI2.out.below (HB2.out.trans (hW.mono HB2.out.size)) rfl))
      generalize leastOf b p u l1 l2 (ll.take k) = o at hbest HST
      rw [ha]
      clear hz hrw hyc hb ha HLL HB1 HB2
      cases o with
      | none =>
        obtain ⟨rfl, rfl⟩ := hbest
        go_wp2_with fail
        refine HF1.out.mono ?_
        rintro e w4 ⟨rfl, hb4⟩
        have HB4 := Lib.hid (HBR.out.trans (hb4.mono HBR.out.size))
        clear hb4 HF1
        obtain ⟨o1, ho1⟩ : ∃ o1, o1 = findN l1 z.name := ⟨_, rfl⟩
        obtain ⟨o2, ho2⟩ : ∃ o2, o2 = findN l2 z.name := ⟨_, rfl⟩
        have HD := Lib.hid (show deniedN b p u l1 l2 z.name = deniedO b p u z.name o1 o2 by rw [ho1, ho2]; rfl)
        have HF2 := Lib.hid (HFF.out w4 HB4.out)
        rw [← ho1]
        rw [← ho2] at HF2
        clear ho1 ho2
        cases o1 with
        | none =>
          simp only [optV]
          go_wp2_with fail
          refine HF2.out.mono ?_
          rintro e w5 ⟨rfl, hb5⟩
          have HBE := Lib.hid (HB4.out.trans (hb5.mono HB4.out.size))
          clear hb5 HF2 HB4
          cases o2 with
          | none =>
            simp only [optV]
            go_wp2_with fail
            all_goals
              refine ⟨⟨k + 1, by omega, by go_num, ?_, HBE.out⟩, by simp [intOf]; omega⟩
              rw [HST.out]
              unfold leastStep
              rw [HD.out]
              unfold deniedO
              simp_all [Best] <;> first | (rw [if_neg (by omega)]; exact ⟨rfl, rfl⟩) | (rw [if_pos (by omega)]; exact ⟨rfl, rfl⟩)

          | some i2 =>
            simp only [optV]
            cases hi2 : decide (i2 > p) with
            | true =>
              go_wp2_with fail
              all_goals
                refine ⟨⟨k + 1, by omega, by go_num, ?_, HBE.out⟩, by simp [intOf]; omega⟩
                rw [HST.out]
                unfold leastStep
                rw [HD.out]
                unfold deniedO
                simp_all [Best] <;> first | (rw [if_neg (by omega)]; exact ⟨rfl, rfl⟩) | (rw [if_pos (by omega)]; exact ⟨rfl, rfl⟩)

            | false =>
              cases u with
              | false =>
                  go_wp2_with fail
                  all_goals
                    refine ⟨⟨k + 1, by omega, by go_num, ?_, HBE.out⟩, by simp [intOf]; omega⟩
                    rw [HST.out]
                    unfold leastStep
                    rw [HD.out]
                    unfold deniedO
                    simp_all [Best] <;> first | (rw [if_neg (by omega)]; exact ⟨rfl, rfl⟩) | (rw [if_pos (by omega)]; exact ⟨rfl, rfl⟩)

              | true =>
                  go_wp2_with fail
                  all_goals
                    refine ⟨⟨k + 1, by omega, by go_num, ?_, HBE.out⟩, by simp [intOf]; omega⟩
                    rw [HST.out]
                    unfold leastStep
                    rw [HD.out]
                    unfold deniedO
                    simp_all [Best] <;> first | (rw [if_neg (by omega)]; exact ⟨rfl, rfl⟩) | (rw [if_pos (by omega)]; exact ⟨rfl, rfl⟩)

        | some i1 =>
          simp only [optV]
          go_wp2_with fail
          refine HF2.out.mono ?_
          rintro e w5 ⟨rfl, hb5⟩
          have HBE := Lib.hid (HB4.out.trans (hb5.mono HB4.out.size))
          clear hb5 HF2 HB4
          cases o2 with
          | none =>
            simp only [optV]
            cases u with
            | false =>
              go_wp2_with fail
              all_goals
                refine ⟨⟨k + 1, by omega, by go_num, ?_, HBE.out⟩, by simp [intOf]; omega⟩
                rw [HST.out]
                unfold leastStep
                rw [HD.out]
                unfold deniedO
                simp_all [Best] <;> first | (rw [if_neg (by omega)]; exact ⟨rfl, rfl⟩) | (rw [if_pos (by omega)]; exact ⟨rfl, rfl⟩)

            | true =>
              cases hn : (z.name.toList == b.toList) with
              | true =>
                have hn2 : (!(z.name.toList == b.toList)) = false := by simp [hn]
                go_wp2_with fail
                all_goals
                  refine ⟨⟨k + 1, by omega, by go_num, ?_, HBE.out⟩, by simp [intOf]; omega⟩
                  rw [HST.out]
                  unfold leastStep
                  rw [HD.out]
                  unfold deniedO
                  simp_all [Best] <;> first | (rw [if_neg (by omega)]; exact ⟨rfl, rfl⟩) | (rw [if_pos (by omega)]; exact ⟨rfl, rfl⟩)

              | false =>
                have hn2 : (!(z.name.toList == b.toList)) = true := by simp [hn]
                go_wp2_with fail
                all_goals
                  refine ⟨⟨k + 1, by omega, by go_num, ?_, HBE.out⟩, by simp [intOf]; omega⟩
                  rw [HST.out]
                  unfold leastStep
                  rw [HD.out]
                  unfold deniedO
                  simp_all [Best] <;> first | (rw [if_neg (by omega)]; exact ⟨rfl, rfl⟩) | (rw [if_pos (by omega)]; exact ⟨rfl, rfl⟩)

          | some i2 =>
            simp only [optV]
            by_cases he : i1 = i2
            · subst he
              go_wp2_with fail
              all_goals
                refine ⟨⟨k + 1, by omega, by go_num, ?_, HBE.out⟩, by simp [intOf]; omega⟩
                rw [HST.out]
                unfold leastStep
                rw [HD.out]
                unfold deniedO
                simp_all [Best] <;> first | (rw [if_neg (by omega)]; exact ⟨rfl, rfl⟩) | (rw [if_pos (by omega)]; exact ⟨rfl, rfl⟩)

            · have he2 : (i1 == i2) = false := by simp [he]
              cases u with
              | false =>
                go_wp2_with fail
                all_goals
                  refine ⟨⟨k + 1, by omega, by go_num, ?_, HBE.out⟩, by simp [intOf]; omega⟩
                  rw [HST.out]
                  unfold leastStep
                  rw [HD.out]
                  unfold deniedO
                  simp_all [Best] <;> first | (rw [if_neg (by omega)]; exact ⟨rfl, rfl⟩) | (rw [if_pos (by omega)]; exact ⟨rfl, rfl⟩)

              | true =>
                cases hn : (z.name.toList == b.toList) with
                | true =>
                  have hn2 : (!(z.name.toList == b.toList)) = false := by simp [hn]
                  go_wp2_with fail
                  all_goals
                    refine ⟨⟨k + 1, by omega, by go_num, ?_, HBE.out⟩, by simp [intOf]; omega⟩
                    rw [HST.out]
                    unfold leastStep
                    rw [HD.out]
                    unfold deniedO
                    simp_all [Best] <;> first | (rw [if_neg (by omega)]; exact ⟨rfl, rfl⟩) | (rw [if_pos (by omega)]; exact ⟨rfl, rfl⟩)

                | false =>
                  have hn2 : (!(z.name.toList == b.toList)) = true := by simp [hn]
                  go_wp2_with fail
                  all_goals
                    refine ⟨⟨k + 1, by omega, by go_num, ?_, HBE.out⟩, by simp [intOf]; omega⟩
                    rw [HST.out]
                    unfold leastStep
                    rw [HD.out]
                    unfold deniedO
                    simp_all [Best] <;> first | (rw [if_neg (by omega)]; exact ⟨rfl, rfl⟩) | (rw [if_pos (by omega)]; exact ⟨rfl, rfl⟩)

      | some n =>
        obtain ⟨rfl, rfl⟩ := hbest
        cases hls : Op.bytesLess z.name.toList n.toList with
        | true =>
          go_wp2_with fail
          refine HF1.out.mono ?_
          rintro e w4 ⟨rfl, hb4⟩
          have HB4 := Lib.hid (HBR.out.trans (hb4.mono HBR.out.size))
          clear hb4 HF1
          obtain ⟨o1, ho1⟩ : ∃ o1, o1 = findN l1 z.name := ⟨_, rfl⟩
          obtain ⟨o2, ho2⟩ : ∃ o2, o2 = findN l2 z.name := ⟨_, rfl⟩
          have HD := Lib.hid (show deniedN b p u l1 l2 z.name = deniedO b p u z.name o1 o2 by rw [ho1, ho2]; rfl)
          have HF2 := Lib.hid (HFF.out w4 HB4.out)
          rw [← ho1]
          rw [← ho2] at HF2
          clear ho1 ho2
          cases o1 with
          | none =>
            simp only [optV]
            go_wp2_with fail
            refine HF2.out.mono ?_
            rintro e w5 ⟨rfl, hb5⟩
            have HBE := Lib.hid (HB4.out.trans (hb5.mono HB4.out.size))
            clear hb5 HF2 HB4
            cases o2 with
            | none =>
              simp only [optV]
              go_wp2_with fail
              all_goals
                refine ⟨⟨k + 1, by omega, by go_num, ?_, HBE.out⟩, by simp [intOf]; omega⟩
                rw [HST.out]
                unfold leastStep
                rw [HD.out]
                unfold deniedO
                simp_all [Best] <;> first | (rw [if_neg (by omega)]; exact ⟨rfl, rfl⟩) | (rw [if_pos (by omega)]; exact ⟨rfl, rfl⟩)

            | some i2 =>
              simp only [optV]
              cases hi2 : decide (i2 > p) with
              | true =>
                go_wp2_with fail
                all_goals
                  refine ⟨⟨k + 1, by omega, by go_num, ?_, HBE.out⟩, by simp [intOf]; omega⟩
                  rw [HST.out]
                  unfold leastStep
                  rw [HD.out]
                  unfold deniedO
                  simp_all [Best] <;> first | (rw [if_neg (by omega)]; exact ⟨rfl, rfl⟩) | (rw [if_pos (by omega)]; exact ⟨rfl, rfl⟩)

              | false =>
                cases u with
                | false =>
                    go_wp2_with fail
                    all_goals
                      refine ⟨⟨k + 1, by omega, by go_num, ?_, HBE.out⟩, by simp [intOf]; omega⟩
                      rw [HST.out]
                      unfold leastStep
                      rw [HD.out]
                      unfold deniedO
                      simp_all [Best] <;> first | (rw [if_neg (by omega)]; exact ⟨rfl, rfl⟩) | (rw [if_pos (by omega)]; exact ⟨rfl, rfl⟩)

                | true =>
                    go_wp2_with fail
                    all_goals
                      refine ⟨⟨k + 1, by omega, by go_num, ?_, HBE.out⟩, by simp [intOf]; omega⟩
                      rw [HST.out]
                      unfold leastStep
                      rw [HD.out]
                      unfold deniedO
                      simp_all [Best] <;> first | (rw [if_neg (by omega)]; exact ⟨rfl, rfl⟩) | (rw [if_pos (by omega)]; exact ⟨rfl, rfl⟩)

          | some i1 =>
            simp only [optV]
            go_wp2_with fail
            refine HF2.out.mono ?_
            rintro e w5 ⟨rfl, hb5⟩
            have HBE := Lib.hid (HB4.out.trans (hb5.mono HB4.out.size))
            clear hb5 HF2 HB4
            cases o2 with
            | none =>
              simp only [optV]
              cases u with
              | false =>
                go_wp2_with fail
                all_goals
                  refine ⟨⟨k + 1, by omega, by go_num, ?_, HBE.out⟩, by simp [intOf]; omega⟩
                  rw [HST.out]
                  unfold leastStep
                  rw [HD.out]
                  unfold deniedO
                  simp_all [Best] <;> first | (rw [if_neg (by omega)]; exact ⟨rfl, rfl⟩) | (rw [if_pos (by omega)]; exact ⟨rfl, rfl⟩)

              | true =>
                cases hn : (z.name.toList == b.toList) with
                | true =>
                  have hn2 : (!(z.name.toList == b.toList)) = false := by simp [hn]
                  go_wp2_with fail
                  all_goals
                    refine ⟨⟨k + 1, by omega, by go_num, ?_, HBE.out⟩, by simp [intOf]; omega⟩
                    rw [HST.out]
                    unfold leastStep
                    rw [HD.out]
                    unfold deniedO
                    simp_all [Best] <;> first | (rw [if_neg (by omega)]; exact ⟨rfl, rfl⟩) | (rw [if_pos (by omega)]; exact ⟨rfl, rfl⟩)

                | false =>
                  have hn2 : (!(z.name.toList == b.toList)) = true := by simp [hn]
                  go_wp2_with fail
                  all_goals
                    refine ⟨⟨k + 1, by omega, by go_num, ?_, HBE.out⟩, by simp [intOf]; omega⟩
                    rw [HST.out]
                    unfold leastStep
                    rw [HD.out]
                    unfold deniedO
                    simp_all [Best] <;> first | (rw [if_neg (by omega)]; exact ⟨rfl, rfl⟩) | (rw [if_pos (by omega)]; exact ⟨rfl, rfl⟩)

            | some i2 =>
              simp only [optV]
              by_cases he : i1 = i2
              · subst he
                go_wp2_with fail
                all_goals
                  refine ⟨⟨k + 1, by omega, by go_num, ?_, HBE.out⟩, by simp [intOf]; omega⟩
                  rw [HST.out]
                  unfold leastStep
                  rw [HD.out]
                  unfold deniedO
                  simp_all [Best] <;> first | (rw [if_neg (by omega)]; exact ⟨rfl, rfl⟩) | (rw [if_pos (by omega)]; exact ⟨rfl, rfl⟩)

              · have he2 : (i1 == i2) = false := by simp [he]
                cases u with
                | false =>
                  go_wp2_with fail
                  all_goals
                    refine ⟨⟨k + 1, by omega, by go_num, ?_, HBE.out⟩, by simp [intOf]; omega⟩
                    rw [HST.out]
                    unfold leastStep
                    rw [HD.out]
                    unfold deniedO
                    simp_all [Best] <;> first | (rw [if_neg (by omega)]; exact ⟨rfl, rfl⟩) | (rw [if_pos (by omega)]; exact ⟨rfl, rfl⟩)

                | true =>
                  cases hn : (z.name.toList == b.toList) with
                  | true =>
                    have hn2 : (!(z.name.toList == b.toList)) = false := by simp [hn]
                    go_wp2_with fail
                    all_goals
                      refine ⟨⟨k + 1, by omega, by go_num, ?_, HBE.out⟩, by simp [intOf]; omega⟩
                      rw [HST.out]
                      unfold leastStep
                      rw [HD.out]
                      unfold deniedO
                      simp_all [Best] <;> first | (rw [if_neg (by omega)]; exact ⟨rfl, rfl⟩) | (rw [if_pos (by omega)]; exact ⟨rfl, rfl⟩)

                  | false =>
                    have hn2 : (!(z.name.toList == b.toList)) = true := by simp [hn]
                    go_wp2_with fail
                    all_goals
                      refine ⟨⟨k + 1, by omega, by go_num, ?_, HBE.out⟩, by simp [intOf]; omega⟩
                      rw [HST.out]
                      unfold leastStep
                      rw [HD.out]
                      unfold deniedO
                      simp_all [Best] <;> first | (rw [if_neg (by omega)]; exact ⟨rfl, rfl⟩) | (rw [if_pos (by omega)]; exact ⟨rfl, rfl⟩)

        | false =>
          go_wp2_with fail
          refine HF1.out.mono ?_
          rintro e w4 ⟨rfl, hb4⟩
          have HB4 := Lib.hid (HBR.out.trans (hb4.mono HBR.out.size))
          clear hb4 HF1
          obtain ⟨o1, ho1⟩ : ∃ o1, o1 = findN l1 z.name := ⟨_, rfl⟩
          obtain ⟨o2, ho2⟩ : ∃ o2, o2 = findN l2 z.name := ⟨_, rfl⟩
          have HD := Lib.hid (show deniedN b p u l1 l2 z.name = deniedO b p u z.name o1 o2 by rw [ho1, ho2]; rfl)
          have HF2 := Lib.hid (HFF.out w4 HB4.out)
          rw [← ho1]
          rw [← ho2] at HF2
          clear ho1 ho2
          cases o1 with
          | none =>
            simp only [optV]
            go_wp2_with fail
            refine HF2.out.mono ?_
            rintro e w5 ⟨rfl, hb5⟩
            have HBE := Lib.hid (HB4.out.trans (hb5.mono HB4.out.size))
            clear hb5 HF2 HB4
            cases o2 with
            | none =>
              simp only [optV]
              go_wp2_with fail
              all_goals
                refine ⟨⟨k + 1, by omega, by go_num, ?_, HBE.out⟩, by simp [intOf]; omega⟩
                rw [HST.out]
                unfold leastStep
                rw [HD.out]
                unfold deniedO
                simp_all [Best] <;> first | (rw [if_neg (by omega)]; exact ⟨rfl, rfl⟩) | (rw [if_pos (by omega)]; exact ⟨rfl, rfl⟩)

            | some i2 =>
              simp only [optV]
              cases hi2 : decide (i2 > p) with
              | true =>
                go_wp2_with fail
                all_goals
                  refine ⟨⟨k + 1, by omega, by go_num, ?_, HBE.out⟩, by simp [intOf]; omega⟩
                  rw [HST.out]
                  unfold leastStep
                  rw [HD.out]
                  unfold deniedO
                  simp_all [Best] <;> first | (rw [if_neg (by omega)]; exact ⟨rfl, rfl⟩) | (rw [if_pos (by omega)]; exact ⟨rfl, rfl⟩)

              | false =>
                cases u with
                | false =>
                    go_wp2_with fail
                    all_goals
                      refine ⟨⟨k + 1, by omega, by go_num, ?_, HBE.out⟩, by simp [intOf]; omega⟩
                      rw [HST.out]
                      unfold leastStep
                      rw [HD.out]
                      unfold deniedO
                      simp_all [Best] <;> first | (rw [if_neg (by omega)]; exact ⟨rfl, rfl⟩) | (rw [if_pos (by omega)]; exact ⟨rfl, rfl⟩)

                | true =>
                    go_wp2_with fail
                    all_goals
                      refine ⟨⟨k + 1, by omega, by go_num, ?_, HBE.out⟩, by simp [intOf]; omega⟩
                      rw [HST.out]
                      unfold leastStep
                      rw [HD.out]
                      unfold deniedO
                      simp_all [Best] <;> first | (rw [if_neg (by omega)]; exact ⟨rfl, rfl⟩) | (rw [if_pos (by omega)]; exact ⟨rfl, rfl⟩)

          | some i1 =>
            simp only [optV]
            go_wp2_with fail
            refine HF2.out.mono ?_
            rintro e w5 ⟨rfl, hb5⟩
            have HBE := Lib.hid (HB4.out.trans (hb5.mono HB4.out.size))
            clear hb5 HF2 HB4
            cases o2 with
            | none =>
              simp only [optV]
              cases u with
              | false =>
                go_wp2_with fail
                all_goals
                  refine ⟨⟨k + 1, by omega, by go_num, ?_, HBE.out⟩, by simp [intOf]; omega⟩
                  rw [HST.out]
                  unfold leastStep
                  rw [HD.out]
                  unfold deniedO
                  simp_all [Best] <;> first | (rw [if_neg (by omega)]; exact ⟨rfl, rfl⟩) | (rw [if_pos (by omega)]; exact ⟨rfl, rfl⟩)

              | true =>
                cases hn : (z.name.toList == b.toList) with
                | true =>
                  have hn2 : (!(z.name.toList == b.toList)) = false := by simp [hn]
                  go_wp2_with fail
                  all_goals
                    refine ⟨⟨k + 1, by omega, by go_num, ?_, HBE.out⟩, by simp [intOf]; omega⟩
                    rw [HST.out]
                    unfold leastStep
                    rw [HD.out]
                    unfold deniedO
                    simp_all [Best] <;> first | (rw [if_neg (by omega)]; exact ⟨rfl, rfl⟩) | (rw [if_pos (by omega)]; exact ⟨rfl, rfl⟩)

                | false =>
                  have hn2 : (!(z.name.toList == b.toList)) = true := by simp [hn]
                  go_wp2_with fail
                  all_goals
                    refine ⟨⟨k + 1, by omega, by go_num, ?_, HBE.out⟩, by simp [intOf]; omega⟩
                    rw [HST.out]
                    unfold leastStep
                    rw [HD.out]
                    unfold deniedO
                    simp_all [Best] <;> first | (rw [if_neg (by omega)]; exact ⟨rfl, rfl⟩) | (rw [if_pos (by omega)]; exact ⟨rfl, rfl⟩)

            | some i2 =>
              simp only [optV]
              by_cases he : i1 = i2
              · subst he
                go_wp2_with fail
                all_goals
                  refine ⟨⟨k + 1, by omega, by go_num, ?_, HBE.out⟩, by simp [intOf]; omega⟩
                  rw [HST.out]
                  unfold leastStep
                  rw [HD.out]
                  unfold deniedO
                  simp_all [Best] <;> first | (rw [if_neg (by omega)]; exact ⟨rfl, rfl⟩) | (rw [if_pos (by omega)]; exact ⟨rfl, rfl⟩)

              · have he2 : (i1 == i2) = false := by simp [he]
                cases u with
                | false =>
                  go_wp2_with fail
                  all_goals
                    refine ⟨⟨k + 1, by omega, by go_num, ?_, HBE.out⟩, by simp [intOf]; omega⟩
                    rw [HST.out]
                    unfold leastStep
                    rw [HD.out]
                    unfold deniedO
                    simp_all [Best] <;> first | (rw [if_neg (by omega)]; exact ⟨rfl, rfl⟩) | (rw [if_pos (by omega)]; exact ⟨rfl, rfl⟩)

                | true =>
                  cases hn : (z.name.toList == b.toList) with
                  | true =>
                    have hn2 : (!(z.name.toList == b.toList)) = false := by simp [hn]
                    go_wp2_with fail
                    all_goals
                      refine ⟨⟨k + 1, by omega, by go_num, ?_, HBE.out⟩, by simp [intOf]; omega⟩
                      rw [HST.out]
                      unfold leastStep
                      rw [HD.out]
                      unfold deniedO
                      simp_all [Best] <;> first | (rw [if_neg (by omega)]; exact ⟨rfl, rfl⟩) | (rw [if_pos (by omega)]; exact ⟨rfl, rfl⟩)

                  | false =>
                    have hn2 : (!(z.name.toList == b.toList)) = true := by simp [hn]
                    go_wp2_with fail
                    all_goals
                      refine ⟨⟨k + 1, by omega, by go_num, ?_, HBE.out⟩, by simp [intOf]; omega⟩
                      rw [HST.out]
                      unfold leastStep
                      rw [HD.out]
                      unfold deniedO
                      simp_all [Best] <;> first | (rw [if_neg (by omega)]; exact ⟨rfl, rfl⟩) | (rw [if_pos (by omega)]; exact ⟨rfl, rfl⟩)

    · obtain rfl : k = ll.length := by omega
      rw [List.take_of_length_le (Nat.le_refl _)] at hbest
      have HBW := Lib.hid (HB2.out.trans (hb.mono HB2.out.size))
      have HQ := Lib.hid (show leastN b p u l1 l2 = leastOf b p u l1 l2 ll by rw [HLL.out]; rfl)
      generalize leastOf b p u l1 l2 ll = o at hbest HQ
      clear hb
      cases o with
      | none =>
        obtain ⟨rfl, rfl⟩ := hbest
        go_wp2_with fail
        go_ret2
        exact ⟨by rw [HQ.out]; rfl, HBW.out⟩
      | some n =>
        obtain ⟨rfl, rfl⟩ := hbest
        go_wp2_with fail
        go_ret2
        exact ⟨by rw [HQ.out]; rfl, HBW.out⟩
end Go.Proofs.YtiehdfokcnphdaaGreatDoor
