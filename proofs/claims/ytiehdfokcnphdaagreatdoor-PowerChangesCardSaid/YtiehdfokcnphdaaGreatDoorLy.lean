/- Why a change may not be made: the document's answer, as the program's. Plain law, no walk. -/
import Derived.Test.YtiehdfokcnphdaaGreatDoorRi
set_option linter.unusedVariables false
namespace Go.Proofs.YtiehdfokcnphdaaGreatDoor
open Go.RowKit Go.Shelf Go.Sort

/-- The least that is denied, name by name. -/
def leastStep (b : ByteArray) (p : Int) (u : Bool) (l1 l2 : List Nm) (o : Option ByteArray) (z : Nm) : Option ByteArray :=
  if deniedN b p u l1 l2 z.name && (match o with | none => true | some n => Op.bytesLess z.name.toList n.toList) then some z.name else o
def leastOf (b : ByteArray) (p : Int) (u : Bool) (l1 l2 ys : List Nm) : Option ByteArray := ys.foldl (leastStep b p u l1 l2) none
def leastN (b : ByteArray) (p : Int) (u : Bool) (l1 l2 : List Nm) : Option ByteArray := leastOf b p u l1 l2 (l1 ++ l2)
theorem leastOf_snoc (b : ByteArray) (p : Int) (u : Bool) (l1 l2 ys : List Nm) (z : Nm) : leastOf b p u l1 l2 (ys ++ [z]) = leastStep b p u l1 l2 (leastOf b p u l1 l2 ys) z := by
  unfold leastOf
  rw [List.foldl_append]
  rfl
theorem less_trans {a b c : ByteArray} (h1 : Op.bytesLess a.toList b.toList = true) (h2 : Op.bytesLess b.toList c.toList = true) : Op.bytesLess a.toList c.toList = true := by
  rw [less_ltStr] at *
  exact Sort.swo_ltStr.trans _ _ _ h1 h2
theorem less_anti {a b : ByteArray} (h1 : Op.bytesLess a.toList b.toList = false) (h2 : Op.bytesLess b.toList a.toList = false) : a = b := by
  cases he : (a.toList == b.toList) with
  | true => exact bytes_inj (by simpa using he)
  | false => rw [less_total h1 he] at h2; cases h2
def LeastIs (b : ByteArray) (p : Int) (u : Bool) (l1 l2 ys : List Nm) : Option ByteArray → Prop
  | none => ∀ z ∈ ys, deniedN b p u l1 l2 z.name = false
  | some n => (∃ z ∈ ys, z.name = n ∧ deniedN b p u l1 l2 z.name = true) ∧ ∀ z ∈ ys, deniedN b p u l1 l2 z.name = true → Op.bytesLess z.name.toList n.toList = false
theorem least_step {b : ByteArray} {p : Int} {u : Bool} {l1 l2 ys : List Nm} {o : Option ByteArray} (h : LeastIs b p u l1 l2 ys o) (z : Nm) : LeastIs b p u l1 l2 (ys ++ [z]) (leastStep b p u l1 l2 o z) := by
  unfold leastStep
  cases hd : deniedN b p u l1 l2 z.name with
  | false =>
    rw [Bool.false_and, if_neg (by simp)]
    cases o with
    | none =>
      intro y hy
      rcases List.mem_append.1 hy with hy | hy
      · exact h y hy
      · obtain rfl := List.mem_singleton.1 hy
        exact hd
    | some n =>
      obtain ⟨⟨y, hy, h1, h2⟩, h3⟩ := h
      refine ⟨⟨y, List.mem_append_left _ hy, h1, h2⟩, fun t ht hdt => ?_⟩
      rcases List.mem_append.1 ht with ht | ht
      · exact h3 t ht hdt
      · obtain rfl := List.mem_singleton.1 ht
        rw [hd] at hdt; cases hdt
  | true =>
    rw [Bool.true_and]
    cases o with
    | none =>
      rw [if_pos rfl]
      refine ⟨⟨z, List.mem_append_right _ (by simp), rfl, hd⟩, fun t ht hdt => ?_⟩
      rcases List.mem_append.1 ht with ht | ht
      · rw [h t ht] at hdt; cases hdt
      · obtain rfl := List.mem_singleton.1 ht
        exact less_irr _
    | some n =>
      obtain ⟨⟨y, hy, h1, h2⟩, h3⟩ := h
      cases hl : Op.bytesLess z.name.toList n.toList with
      | true =>
        rw [if_pos hl]
        refine ⟨⟨z, List.mem_append_right _ (by simp), rfl, hd⟩, fun t ht hdt => ?_⟩
        rcases List.mem_append.1 ht with ht | ht
        · cases hq : Op.bytesLess t.name.toList z.name.toList with
          | false => rfl
          | true =>
            have := h3 t ht hdt
            rw [less_trans hq hl] at this; cases this
        · obtain rfl := List.mem_singleton.1 ht
          exact less_irr _
      | false =>
        rw [if_neg (by dsimp only; rw [hl]; simp)]
        refine ⟨⟨y, List.mem_append_left _ hy, h1, h2⟩, fun t ht hdt => ?_⟩
        rcases List.mem_append.1 ht with ht | ht
        · exact h3 t ht hdt
        · obtain rfl := List.mem_singleton.1 ht
          exact hl
theorem least_fold {b : ByteArray} {p : Int} {u : Bool} {l1 l2 : List Nm} : ∀ (ys pre : List Nm) (o : Option ByteArray), LeastIs b p u l1 l2 pre o → LeastIs b p u l1 l2 (pre ++ ys) (ys.foldl (leastStep b p u l1 l2) o)
  | [], pre, o, h => by simpa using h
  | z :: ys, pre, o, h => by
    have := least_fold ys (pre ++ [z]) _ (least_step h z)
    rw [List.append_assoc] at this
    exact this
theorem least_is (b : ByteArray) (p : Int) (u : Bool) (l1 l2 ys : List Nm) : LeastIs b p u l1 l2 ys (leastOf b p u l1 l2 ys) := by
  have := least_fold (b := b) (p := p) (u := u) (l1 := l1) (l2 := l2) ys [] none (by intro z hz; cases hz)
  rw [List.nil_append] at this
  exact this
theorem ltN_less (a b : Nm) : ltOf cmpN a b = Op.bytesLess a.name.toList b.name.toList := by rw [ltOf_cmpN, less_ltStr]
/-- The first of a sorted list that is denied has the least name. -/
theorem listE_least {b : ByteArray} {p : Int} {u : Bool} {l1 l2 ys : List Nm} (hp : ys.Perm (l1 ++ l2)) (hs : ys.Pairwise (fun a b => ltOf cmpN b a = false)) : listE b p u l1 l2 ys = (leastN b p u l1 l2).map fun n => ([n], 22) := by
  have hl := least_is b p u l1 l2 (l1 ++ l2)
  unfold listE leastN
  cases ho : leastOf b p u l1 l2 (l1 ++ l2) with
  | none =>
    rw [ho] at hl
    rw [List.find?_eq_none.2 (fun z hz => by rw [hl z (hp.mem_iff.1 hz)]; simp)]
    rfl
  | some n =>
    rw [ho] at hl
    obtain ⟨⟨y, hy, h1, h2⟩, h3⟩ := hl
    cases hf : ys.find? fun k => deniedN b p u l1 l2 k.name with
    | none =>
      have := List.find?_eq_none.1 hf y (hp.mem_iff.2 hy)
      rw [h2] at this
      exact absurd rfl this
    | some q =>
      obtain ⟨hq, ys1, ys2, rfl, hno⟩ := List.find?_eq_some_iff_append.1 hf
      have hqn : q.name = n := by
        refine less_anti (h3 q (hp.mem_iff.1 (by simp)) hq) ?_
        have hy2 := hp.mem_iff.2 hy
        rcases List.mem_append.1 hy2 with hm | hm
        · have := hno y hm
          rw [h2] at this
          simp at this
        · rcases List.mem_cons.1 hm with rfl | hm
          · rw [h1]; exact less_irr _
          · have := (List.pairwise_cons.1 (List.pairwise_append.1 hs).2.1).1 y hm
            rw [ltN_less, h1] at this
            exact this
      rw [← hqn]
      rfl
/-- What is wrong with one part; with the first of all that is wrong. -/
def docE (b : ByteArray) (p : Int) (x y : Lv) (ex ux ey uy : List Nm) (pt : Pt) : Er := match pt.num, pt.lst with
  | some j, _ => if numN (numAt x j) (numAt y j) p then some ([pt.key], 22) else none
  | none, some j => (leastN b p (decide (j = 8)) (if j = 8 then ux else ex) (if j = 8 then uy else ey)).map fun n => ([pt.key, n], 22)
  | none, none => none
def docs (b : ByteArray) (p : Int) (x y : Lv) (ex ux ey uy : List Nm) : List Pt → Er
  | [] => none
  | pt :: l => match docE b p x y ex ux ey uy pt with
    | some e => some e
    | none => docs b p x y ex ux ey uy l
theorem pt_doc {b : ByteArray} {p : Int} {x y : Lv} {ex ux ey uy : List Nm} {pt : Pt} {er : Er} (h : PtE b p x y ex ux ey uy pt er) : er = docE b p x y ex ux ey uy pt := by
  unfold PtE at h
  unfold docE
  cases h1 : pt.num with
  | some j => rw [h1] at h; exact h
  | none =>
    cases h2 : pt.lst with
    | none => rw [h1, h2] at h; exact h.elim
    | some j =>
      rw [h1, h2] at h
      obtain ⟨ys, hp, hs, rfl⟩ := h
      rw [listE_least hp hs]
      dsimp only
      cases leastN b p (decide (j = 8)) (if j = 8 then ux else ex) (if j = 8 then uy else ey) <;> rfl
theorem docs_none {b : ByteArray} {p : Int} {x y : Lv} {ex ux ey uy : List Nm} : ∀ {l : List Pt}, (∀ pt ∈ l, docE b p x y ex ux ey uy pt = none) → docs b p x y ex ux ey uy l = none
  | [], _ => rfl
  | pt :: l, h => by
    unfold docs
    rw [h pt (by simp)]
    exact docs_none (fun q hq => h q (by simp [hq]))
theorem docs_at {b : ByteArray} {p : Int} {x y : Lv} {ex ux ey uy : List Nm} : ∀ {l : List Pt} {k : Nat} {pt : Pt} {e : List ByteArray × Int}, l[k]? = some pt → (∀ i q, i < k → l[i]? = some q → docE b p x y ex ux ey uy q = none) → docE b p x y ex ux ey uy pt = some e → docs b p x y ex ux ey uy l = some e
  | [], k, pt, e, h, _, _ => by simp at h
  | q :: l, 0, pt, e, h, _, he => by
    simp at h
    subst h
    unfold docs
    rw [he]
  | q :: l, k + 1, pt, e, h, hn, he => by
    unfold docs
    rw [hn 0 q (by omega) rfl]
    exact docs_at (by simpa using h) (fun i r hi hr => hn (i + 1) r (by omega) (by simpa using hr)) he
theorem che_docs {b : ByteArray} {p : Int} {x y : Lv} {ex ux ey uy : List Nm} {er : Er} (h : ChE b p x y ex ux ey uy er) : er = docs b p x y ex ux ey uy pts := by
  rcases h with ⟨rfl, h⟩ | ⟨k, pt, e, hk, hn, hp, hne, rfl⟩
  · exact (docs_none (fun pt hpt => (pt_doc (h pt hpt)).symm)).symm
  · cases er with
    | none => exact absurd rfl hne
    | some e => exact (docs_at hk (fun i q hi hq => (pt_doc (hn i q hi hq)).symm) (pt_doc hp).symm).symm
/-- From levels to themselves nothing is denied. -/
theorem denied_self (b : ByteArray) (p : Int) (u : Bool) (l : List Nm) (n : ByteArray) : deniedN b p u l l n = false := by
  unfold deniedN deniedO
  simp
theorem least_self (b : ByteArray) (p : Int) (u : Bool) (l : List Nm) : leastN b p u l l = none := by
  have h := least_is b p u l l (l ++ l)
  unfold leastN
  cases ho : leastOf b p u l l (l ++ l) with
  | none => rfl
  | some n =>
    rw [ho] at h
    obtain ⟨⟨y, _, _, h2⟩, _⟩ := h
    rw [denied_self] at h2
    cases h2
theorem docs_self (b : ByteArray) (p : Int) (x : Lv) (x2 : Lv) (ex ux : List Nm) (hx : ∀ j, numAt x j = numAt x2 j) : docs b p x x2 ex ux ex ux pts = none := by
  refine docs_none (fun pt _ => ?_)
  unfold docE
  cases h1 : pt.num with
  | some j =>
    dsimp only
    rw [hx j, if_neg (by unfold numN; simp)]
  | none =>
    cases h2 : pt.lst with
    | none => rfl
    | some j =>
      dsimp only
      rw [least_self]
      rfl
theorem least_mem {b : ByteArray} {p : Int} {u : Bool} {l1 l2 : List Nm} {n : ByteArray} (h : leastN b p u l1 l2 = some n) : ∃ z ∈ l1 ++ l2, z.name = n := by
  have hl := least_is b p u l1 l2 (l1 ++ l2)
  unfold leastN at h
  rw [h] at hl
  obtain ⟨⟨y, hy, h1, _⟩, _⟩ := hl
  exact ⟨y, hy, h1⟩
end Go.Proofs.YtiehdfokcnphdaaGreatDoor
