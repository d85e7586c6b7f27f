/- power: names' numbers: find, User, Needs. -/
import Derived.Test.YtiehdfokcnphdaaGreatDoorGe
namespace Go.Proofs.YtiehdfokcnphdaaGreatDoor
open Go.RowKit

structure Nm where
  name : ByteArray
  level : Int
abbrev Nm.cells (x : Nm) : Array Value := #[.string x.name, .int .i64 x.level]
abbrev ncells (l : List Nm) : List (List Value) := l.map fun x => x.cells.toList
theorem ncells_len (l : List Nm) : ∀ c ∈ ncells l, c.length = 2 := by
  intro c hc
  obtain ⟨x, _, rfl⟩ := List.mem_map.1 hc
  rfl
theorem ncells_one (l : List Nm) : ∀ u ∈ (ncells l).flatten, u.oneCell' = true := by
  intro u hu
  obtain ⟨c, hc, hu⟩ := List.mem_flatten.1 hu
  obtain ⟨x, _, rfl⟩ := List.mem_map.1 hc
  simp at hu
  rcases hu with rfl | rfl <;> rfl
/-- slices.IndexFunc, of rows of Nm. -/
theorem index_nm (w : World) (P : Nat → Prop) (s : Sl) (l : List Nm) (f : Nat) (first captured : Array Value) (p : Nm → Bool) (h : RowOf w P 91 2 s (ncells l))
    (hcf : ∀ args W, Sem.run Tryz.prog (callFunc f args) W = .ok (.enter f args) W)
    (hp : ∀ W k, k ∈ l → Below w.heap.size w W → Calls Tryz.prog f (first.push (.agg k.cells) ++ captured) W fun (e : Ending) w' => e = .returned (.bool (p k)) ∧ Below W.heap.size W w') :
    Calls Tryz.prog 39 #[.slice s.a s.n s.c, .func (.func f) first captured] w fun e w' => e = .returned (.int .i64 (idxOf p l)) ∧ Below w.heap.size w w' := by
  have hn : s.n = l.length := by have := h.1; simpa using this
  have hm : l.length ≤ 1000000 := by have := h.2.1; simpa using this
  have HP := Lib.hid hp
  have HR := Lib.hid h
  obtain ⟨A, n, c⟩ := s
  dsimp only at hn
  subst hn
  clear hp h
  go_enter Tryz.func39, Tryz.ntmps39
  go_wp2_with fail
  go_loopw [4, 8] (fun z i wr => ∃ k : Nat, k ≤ l.length ∧ i = .int .i64 k ∧ z = .int .i64 0 ∧ (∀ j q, j < k → l[j]? = some q → p q = false) ∧ Below w.heap.size w wr) (fun _ i _ => l.length - (intOf i).toNat)
  case atStart => exact ⟨0, by omega, rfl, rfl, by omega, Below.refl _ _⟩
  case round =>
    obtain ⟨k, hk, rfl, rfl, hno, hb⟩ := hrel
    have HNO := Lib.hid hno
    have HB := Lib.hid hb
    clear hno
    by_cases hlt : k < l.length
    · have hy : l[k]? = some l[k] := List.getElem?_eq_getElem hlt
      have hC := HP.out wr l[k] (by simp) hb
      generalize l[k] = y at hy hC
      have hyc : (ncells l)[k]? = some y.cells.toList := by simp [hy]
      have hrow := HR.out.same hb.size (fun g hg _ => hb.block g hg)
      obtain ⟨r, ha⟩ : ∃ r, A = some ⟨r, 0, none⟩ := by
        rcases hrow.2.2 with ⟨hs, hn⟩ | ⟨r, h1, _⟩
        · have := congrArg List.length hn; simp at this; subst this; simp at hlt
        · exact ⟨r, h1⟩
      obtain ⟨_, hrl, hrw⟩ := hrow.at ha
      have c0 : wr.cell? ⟨r, k * 2, none⟩ = some (.string y.name) := hrw.cell (d := 0) hyc rfl
      have c1 : wr.cell? ⟨r, k * 2 + 1, none⟩ = some (.int .i64 y.level) := hrw.cell (d := 1) hyc rfl
      have HC := Lib.hid hC
      have HY := Lib.hid hy
      subst ha
      clear hy hyc hrow hrw hb hC
      go_wp2_with fail
      refine HC.out.mono ?_
      rintro e w1 ⟨rfl, hb1⟩
      have HB2 := Lib.hid (HB.out.trans (hb1.mono HB.out.size))
      clear hb1 HC
      by_cases hpk : p y = true
      · have HPK := Lib.hid hpk
        simp only [HPK.out]
        clear hpk
        go_wp2_with fail
        go_ret
        exact ⟨ret_int (idxOf_some p l k y HY.out HPK.out HNO.out).symm, HB2.out⟩
      · have hpk' : p y = false := by simpa using hpk
        have HPK := Lib.hid hpk'
        simp only [HPK.out]
        clear hpk hpk'
        go_wp2_with fail
        refine ⟨⟨k + 1, by omega, by go_num, rfl, ?_, HB2.out⟩, by simp [intOf]; omega⟩
        intro j q' hj hq'
        by_cases hjk : j = k
        · subst hjk
          have := HY.out
          rw [this] at hq'
          cases hq'
          exact HPK.out
        · exact HNO.out j q' (by omega) hq'
    · have hkl : k = l.length := by omega
      subst hkl
      clear hb
      go_wp2_with fail
      go_ret
      exact ⟨ret_int (idxOf_none p l (fun j q hj => HNO.out j q (by have := (List.getElem?_eq_some_iff.1 hj).1; omega) hj)).symm, HB.out⟩


def nameIs (name : ByteArray) (x : Nm) : Bool := x.name.toList == name.toList
/-- A name's number. -/
def findN (l : List Nm) (name : ByteArray) : Option Int := (l.find? (nameIs name)).map (·.level)
theorem findN_cases (l : List Nm) (name : ByteArray) : (idxOf (nameIs name) l = -1 ∧ findN l name = none) ∨ ∃ (j : Nat) (x : Nm), idxOf (nameIs name) l = j ∧ j < l.length ∧ l[j]? = some x ∧ findN l name = some x.level := by
  rcases idxOf_cases (nameIs name) l with ⟨h1, h2⟩ | ⟨j, x, h1, h2, h3, h4, h5⟩
  · left
    refine ⟨h1, ?_⟩
    unfold findN
    rw [List.find?_eq_none.2 (fun q hq => by rw [h2 q hq]; simp)]
    rfl
  · right
    refine ⟨j, x, h1, h3, h2, ?_⟩
    unfold findN
    have : l.find? (nameIs name) = some x := by
      rw [List.find?_eq_some_iff_getElem]
      refine ⟨h4, j, h3, (List.getElem?_eq_some_iff.1 h2).2, ?_⟩
      intro i hi
      have := h5 (l[i]'(by omega)) (by rw [List.mem_iff_getElem?]; exact ⟨i, by rw [List.getElem?_take]; simp [hi]⟩)
      simp [this]
    rw [this]
    rfl
theorem enter_find1 : ∀ args W, Sem.run Tryz.prog (callFunc 54 args) W = .ok (.enter 54 args) W := fun _ _ => by kernel_rfl
theorem find1_calls (w : World) (d : Nat) (name : ByteArray) (x : Nm) (hc : w.cell? ⟨d, 0, none⟩ = some (.string name)) (hd : d < w.heap.size) :
    Calls Tryz.prog 54 #[.agg x.cells, .pointer (some ⟨d, 0, none⟩)] w fun e w' => e = .returned (.bool (nameIs name x)) ∧ Below w.heap.size w w' := by
  go_enter Tryz.func54, Tryz.ntmps54
  go_wp2_with fail
  go_ret
  exact ⟨rfl, Below.alloc (Below.refl _ _) (Nat.le_refl _) _⟩
def optV : Option Int → Value
  | some n => .tuple #[.int .i64 n, .bool true]
  | none => .tuple #[.int .i64 0, .bool false]
theorem find_calls (w : World) (P : Nat → Prop) (s : Sl) (l : List Nm) (name : ByteArray) (h : RowOf w P 91 2 s (ncells l)) :
    Calls Tryz.prog 33 #[.slice s.a s.n s.c, .string name] w fun e w' => e = .returned (optV (findN l name)) ∧ Below w.heap.size w w' := by
  have hb0 : Below w.heap.size w (w.alloc (.cells #[.string name] 9)) := (Below.refl _ _).alloc (Nat.le_refl _) _
  have HI := Lib.hid (index_nm (w.alloc (.cells #[.string name] 9)) P s l 54 #[] #[.pointer (some ⟨w.heap.size, 0, none⟩)] (nameIs name) (h.same hb0.size (fun g hg _ => hb0.block g hg)) enter_find1 (fun W k _ hb => by
    have := find1_calls W w.heap.size name k ((hb.cell (p := ⟨w.heap.size, 0, none⟩) (by simp)).trans (cell_new _ _ _ _ _ _ rfl)) (by have := hb.size; simp at this; omega)
    simpa using this))
  have HROW := Lib.hid h
  have HC := Lib.hid (findN_cases l name)
  have HB0 := Lib.hid hb0
  clear h hb0
  go_enter Tryz.func33, Tryz.ntmps33
  go_wp2_with fail
  refine HI.out.mono ?_
  rintro e w1 ⟨rfl, hb⟩
  have HB := Lib.hid (HB0.out.trans (hb.mono HB0.out.size))
  clear hb HI
  rcases HC.out with ⟨h1, h2⟩ | ⟨j, x, h1, h2, h3, h4⟩
  · have HF := Lib.hid h2
    rw [h1]
    clear h1 h2
    go_wp2_with fail
    go_ret2
    exact ⟨by rw [HF.out]; rfl, HB.out⟩
  · have HF := Lib.hid h4
    have hyc : (ncells l)[j]? = some x.cells.toList := by simp [h3]
    have hrow := HROW.out.same (w' := w1) HB.out.size (fun g hg _ => HB.out.block g hg)
    have hn : s.n = l.length := by have := hrow.1; simpa using this
    have hm6 : l.length ≤ 1000000 := by have := hrow.2.1; simpa using this
    obtain ⟨A, n, c⟩ := s
    dsimp only at hn
    obtain ⟨r, ha⟩ : ∃ r, A = some ⟨r, 0, none⟩ := by
      rcases hrow.2.2 with ⟨hs, hn⟩ | ⟨r, h1, _⟩
      · have := congrArg List.length hn; simp at this; subst this; simp at h2
      · exact ⟨r, h1⟩
    obtain ⟨_, hrl, hrw⟩ := hrow.at ha
    have c1 : w1.cell? ⟨r, j * 2 + 1, none⟩ = some (.int .i64 x.level) := hrw.cell (d := 1) hyc rfl
    dsimp only
    rw [h1, ha, hn]
    clear hyc hrow hrw h1 h3 h4 ha HROW
    go_wp2_with fail
    go_ret2
    exact ⟨by rw [HF.out]; rfl, HB.out⟩

/-- A power.Levels: seven numbers, two lists. -/
structure Lv where
  ban : Int
  kick : Int
  redact : Int
  invite : Int
  state : Int
  event : Int
  user : Int
  events : Sl
  users : Sl
abbrev Lv.cells (x : Lv) : Array Value := #[.int .i64 x.ban, .int .i64 x.kick, .int .i64 x.redact, .int .i64 x.invite, .int .i64 x.state, .int .i64 x.event, .int .i64 x.user, .slice x.events.a x.events.n x.events.c, .slice x.users.a x.users.n x.users.c]
theorem user_calls (w : World) (P : Nat → Prop) (x : Lv) (l : List Nm) (name : ByteArray) (h : RowOf w P 91 2 x.users (ncells l)) :
    Calls Tryz.prog 13 #[.agg x.cells, .string name] w fun e w' => e = .returned (.int .i64 ((findN l name).getD x.user)) ∧ Below w.heap.size w w' := by
  have hb0 : Below w.heap.size w (w.alloc (.cells x.cells 33)) := (Below.refl _ _).alloc (Nat.le_refl _) _
  have HF := Lib.hid (find_calls (w.alloc (.cells x.cells 33)) P x.users l name (h.same hb0.size (fun g hg _ => hb0.block g hg)))
  have HB0 := Lib.hid hb0
  clear h hb0
  go_enter Tryz.func13, Tryz.ntmps13
  go_wp2_with fail
  refine HF.out.mono ?_
  rintro e w1 ⟨rfl, hb⟩
  have k6 : w1.cell? ⟨w.heap.size, 6, none⟩ = some (.int .i64 x.user) := (hb.cell (p := ⟨w.heap.size, 6, none⟩) (by simp)).trans (cell_new _ _ _ _ _ _ rfl)
  have HB := Lib.hid (HB0.out.trans (hb.mono HB0.out.size))
  clear hb HF
  obtain ⟨o, ho⟩ : ∃ o, findN l name = o := ⟨_, rfl⟩
  rw [ho]
  have HO := Lib.hid ho
  clear ho
  cases o with
  | none =>
    unfold optV
    go_wp2_with fail
    go_ret
    exact ⟨by rw [HO.out]; rfl, HB.out⟩
  | some n =>
    unfold optV
    go_wp2_with fail
    go_ret
    exact ⟨by rw [HO.out]; rfl, HB.out⟩
theorem needs_calls (w : World) (P : Nat → Prop) (x : Lv) (l : List Nm) (name : ByteArray) (b : Bool) (h : RowOf w P 91 2 x.events (ncells l)) :
    Calls Tryz.prog 14 #[.agg x.cells, .string name, .bool b] w fun e w' => e = .returned (.int .i64 ((findN l name).getD (if b then x.state else x.event))) ∧ Below w.heap.size w w' := by
  have hb0 : Below w.heap.size w (w.alloc (.cells x.cells 33)) := (Below.refl _ _).alloc (Nat.le_refl _) _
  have HF := Lib.hid (find_calls (w.alloc (.cells x.cells 33)) P x.events l name (h.same hb0.size (fun g hg _ => hb0.block g hg)))
  have HB0 := Lib.hid hb0
  clear h hb0
  cases b
  all_goals
    go_enter Tryz.func14, Tryz.ntmps14
    go_wp2_with fail
    refine HF.out.mono ?_
    rintro e w1 ⟨rfl, hb⟩
    have k4 : w1.cell? ⟨w.heap.size, 4, none⟩ = some (.int .i64 x.state) := (hb.cell (p := ⟨w.heap.size, 4, none⟩) (by simp)).trans (cell_new _ _ _ _ _ _ rfl)
    have k5 : w1.cell? ⟨w.heap.size, 5, none⟩ = some (.int .i64 x.event) := (hb.cell (p := ⟨w.heap.size, 5, none⟩) (by simp)).trans (cell_new _ _ _ _ _ _ rfl)
    have HB := Lib.hid (HB0.out.trans (hb.mono HB0.out.size))
    clear hb HF
    obtain ⟨o, ho⟩ : ∃ o, findN l name = o := ⟨_, rfl⟩
    rw [ho]
    have HO := Lib.hid ho
    clear ho
    cases o with
    | none =>
      unfold optV
      go_wp2_with fail
      go_ret
      exact ⟨by rw [HO.out]; rfl, HB.out⟩
    | some n =>
      unfold optV
      go_wp2_with fail
      go_ret
      exact ⟨by rw [HO.out]; rfl, HB.out⟩
end Go.Proofs.YtiehdfokcnphdaaGreatDoor
