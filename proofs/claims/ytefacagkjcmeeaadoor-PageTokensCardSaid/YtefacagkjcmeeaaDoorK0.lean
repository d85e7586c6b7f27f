/- The plain side of PageTokens and PageKeeps: what a book holds behind puts. No walk. -/
import Derived.Test.YtefacagkjcmeeaaDoorC0
namespace Go.Proofs.YtefacagkjcmeeaaDoor
open Go.RowKit

/-- Nothing is over: a clearing leaves all. -/
theorem clear_all {b : BK} {n : Int} (hn : max b.now n = n) (h1 : 0 ≤ b.life) (h2 : b.life < 18446744073709551616) (h : ∀ q ∈ b.l, 0 ≤ n - q.born ∧ n - q.born < b.life) : b.clear n = { b with now := n } := by
  unfold BK.clear keep
  rw [hn]
  congr 1
  rw [List.filter_eq_self]
  intro q hq
  obtain ⟨h3, h4⟩ := h q hq
  rw [overB_eq h1 h2 h3 (by omega)]
  simp
  omega
/-- All is over: a clearing leaves nothing. -/
theorem clear_none {b : BK} {n : Int} (hn : max b.now n = n) (h1 : 0 ≤ b.life) (h2 : b.life < 18446744073709551616) (h : ∀ q ∈ b.l, b.life ≤ n - q.born ∧ n - q.born < 18446744073709551616) : b.clear n = { b with now := n, l := [] } := by
  unfold BK.clear keep
  rw [hn]
  congr 1
  rw [List.filter_eq_nil_iff]
  intro q hq
  obtain ⟨h3, h4⟩ := h q hq
  rw [overB_eq h1 h2 (by omega) h4]
  simp
  omega

/-- PageTokens: behind m puts, the last at the time m - 1. -/
structure TInv (b : BK) (m : Nat) : Prop where
  most : b.most = 20
  life : b.life = 100
  time : b.now = (m : Int) - 1 ∨ (b.now = -9223372036854775808 ∧ m = 0)
  len : b.l.length = min m 20
  born : ∀ q ∈ b.l, 0 ≤ q.born ∧ q.born < m
  nodup : (b.l.map (·.tok)).Nodup
theorem TInv.put {b : BK} {m : Nat} (h : TInv b m) (hm : m < 60) (q : Kp) (hq : q.born = (b.shed m).now) (hfr : ∀ k ∈ (b.shed m).l, k.tok ≠ q.tok) :
    TInv { b.shed m with l := (b.shed m).l ++ [q] } (m + 1) := by
  have hn : max b.now (m : Int) = m := by rcases h.time with h | ⟨h, _⟩ <;> rw [h] <;> omega
  have hc : b.clear m = { b with now := (m : Int) } := clear_all hn (by rw [h.life]; omega) (by rw [h.life]; omega) (fun q hq => by have := h.born q hq; rw [h.life]; omega)
  have hl := h.len
  by_cases hf : m < 20
  · have hs : b.shed m = { b with now := (m : Int) } := by
      unfold BK.shed
      rw [hc, if_neg]
      show ¬ ((b.l.length : Int) = b.most)
      rw [h.most]; omega
    rw [hs] at hq hfr ⊢
    refine ⟨h.most, h.life, .inl (by show (m : Int) = _; omega), ?_, ?_, ?_⟩
    · simp; omega
    · intro k hk
      simp at hk
      rcases hk with hk | rfl
      · have := h.born k hk; omega
      · rw [hq]; exact ⟨by show (0 : Int) ≤ m; omega, by show (m : Int) < _; omega⟩
    · simp only [List.map_append, List.map_cons, List.map_nil]
      rw [List.nodup_append]
      refine ⟨h.nodup, by simp, ?_⟩
      intro a ha c hc
      simp at hc
      subst hc
      obtain ⟨k, hk, rfl⟩ := List.mem_map.1 ha
      exact hfr k hk
  · have hs : b.shed m = { b with now := (m : Int), l := b.l.tail } := by
      unfold BK.shed
      rw [hc, if_pos]
      show ((b.l.length : Int) = b.most)
      rw [h.most]; omega
    rw [hs] at hq hfr ⊢
    refine ⟨h.most, h.life, .inl (by show (m : Int) = _; omega), ?_, ?_, ?_⟩
    · simp; omega
    · intro k hk
      simp at hk
      rcases hk with hk | rfl
      · have := h.born k (List.mem_of_mem_tail hk); omega
      · rw [hq]; exact ⟨by show (0 : Int) ≤ m; omega, by show (m : Int) < _; omega⟩
    · simp only [List.map_append, List.map_cons, List.map_nil]
      rw [List.nodup_append]
      refine ⟨?_, by simp, ?_⟩
      · have := h.nodup
        exact this.sublist ((List.tail_sublist _).map _)
      · intro a ha c hc
        simp at hc
        subst hc
        obtain ⟨k, hk, rfl⟩ := List.mem_map.1 ha
        exact hfr k hk

/-- PageKeeps: behind ann's put and m others', all at the time 1000. -/
structure KInv (room life : Int) (tok ann : ByteArray) (what : ByteArray) (thing : Int) (b : BK) (m : Nat) : Prop where
  most : b.most = room
  life : b.life = life
  now : b.now = 1000
  len : (b.l.length : Int) = min ((m : Int) + 1) room
  born : ∀ q ∈ b.l, q.born = 1000
  head : (m : Int) + 1 ≤ room → ∃ one t, b.l = ⟨tok, ann, what, 1000, .int .i64 thing, one⟩ :: t ∧ ∀ q ∈ t, q.who.toList ≠ ann.toList ∧ q.tok ≠ tok
  gone : room < (m : Int) + 1 → ∀ q ∈ b.l, q.who.toList ≠ ann.toList

theorem KInv.same {room life : Int} {tok ann what : ByteArray} {thing : Int} {b : BK} {m : Nat} (h : KInv room life tok ann what thing b m) (hl1 : 1 ≤ life) (hl2 : life ≤ 256) {n : Int} (hn : 1000 ≤ n) (hn2 : n < 1000 + life) :
    b.clear n = { b with now := n } :=
  clear_all (by rw [h.now]; omega) (by rw [h.life]; omega) (by rw [h.life]; omega) (fun q hq => by rw [h.born q hq, h.life]; omega)
theorem KInv.empty {room life : Int} {tok ann what : ByteArray} {thing : Int} {b : BK} {m : Nat} (h : KInv room life tok ann what thing b m) (hl1 : 1 ≤ life) (hl2 : life ≤ 256) {n : Int} (hn : 1000 + life ≤ n) (hn2 : n < 10000) :
    b.clear n = { b with now := n, l := [] } :=
  clear_none (by rw [h.now]; omega) (by rw [h.life]; omega) (by rw [h.life]; omega) (fun q hq => by rw [h.born q hq, h.life]; omega)
theorem KInv.put {room life : Int} {tok ann what : ByteArray} {thing : Int} {b : BK} {m : Nat} (h : KInv room life tok ann what thing b m) (hr : 1 ≤ room) (hl1 : 1 ≤ life) (hl2 : life ≤ 256) (q : Kp) (hq : q.born = (b.shed 1000).now)
    (hw : q.who.toList ≠ ann.toList) (hfr : ∀ k ∈ (b.shed 1000).l, k.tok ≠ q.tok) : KInv room life tok ann what thing { b.shed 1000 with l := (b.shed 1000).l ++ [q] } (m + 1) := by
  have hc : b.clear 1000 = b := by
    rw [h.same hl1 hl2 (Int.le_refl _) (by omega)]
    have := h.now
    cases b
    simp at this
    rw [this]
  have hl := h.len
  by_cases hf : (b.l.length : Int) = room
  · have hs : b.shed 1000 = { b with l := b.l.tail } := by
      unfold BK.shed
      rw [hc, if_pos (by rw [h.most]; exact hf)]
    rw [hs] at hq hfr ⊢
    have hb : q.born = 1000 := hq.trans h.now
    have hpos : 1 ≤ b.l.length := by omega
    refine ⟨h.most, h.life, h.now, ?_, ?_, fun hh => absurd hh (by omega), fun _ => ?_⟩
    · simp; omega
    · intro k hk
      simp at hk
      rcases hk with hk | rfl
      · exact h.born k (List.mem_of_mem_tail hk)
      · exact hb
    · intro k hk
      simp at hk
      rcases hk with hk | rfl
      · by_cases hm : (m : Int) + 1 ≤ room
        · obtain ⟨one, t, ht, hall⟩ := h.head hm
          rw [ht] at hk
          exact (hall k hk).1
        · exact h.gone (by omega) k (List.mem_of_mem_tail hk)
      · exact hw
  · have hs : b.shed 1000 = b := by
      unfold BK.shed
      rw [hc, if_neg (by rw [h.most]; exact hf)]
    rw [hs] at hq hfr ⊢
    have hb : q.born = 1000 := hq.trans h.now
    refine ⟨h.most, h.life, h.now, ?_, ?_, fun _ => ?_, fun hh => absurd hh (by omega)⟩
    · simp; omega
    · intro k hk
      simp at hk
      rcases hk with hk | rfl
      · exact h.born k hk
      · exact hb
    · obtain ⟨one, t, ht, hall⟩ := h.head (by omega)
      refine ⟨one, t ++ [q], by rw [ht]; rfl, ?_⟩
      intro k hk
      simp at hk
      rcases hk with hk | rfl
      · exact hall k hk
      · exact ⟨hw, fun e => hfr ⟨tok, ann, what, 1000, .int .i64 thing, one⟩ (by rw [ht]; simp) e.symm⟩
theorem KInv.getNone {room life : Int} {tok ann what : ByteArray} {thing : Int} {b : BK} {m : Nat} (h : KInv room life tok ann what thing b m) (hm : room < (m : Int) + 1) (w2 : ByteArray) : I.getRes b.l tok ann w2 = (.int .i64 0, I.code 17) := by
  unfold I.getRes
  cases hf : b.l.find? (tokB tok) with
  | none => rfl
  | some k =>
    have := h.gone hm k (List.mem_of_find?_eq_some hf)
    have hb : (k.who.toList == ann.toList) = false := by simpa using this
    simp only [hb]
    rfl
theorem KInv.getSome {room life : Int} {tok ann what : ByteArray} {thing : Int} {b : BK} {m : Nat} (h : KInv room life tok ann what thing b m) (hm : (m : Int) + 1 ≤ room) (who w2 : ByteArray) :
    I.getRes b.l tok who w2 = if ann.toList == who.toList then (if what.toList == w2.toList then (.int .i64 thing, .nilIface) else (.int .i64 0, I.code 18)) else (.int .i64 0, I.code 17) := by
  obtain ⟨one, t, ht, _⟩ := h.head hm
  unfold I.getRes
  rw [ht, List.find?_cons]
  have : tokB tok ⟨tok, ann, what, 1000, .int .i64 thing, one⟩ = true := by simp [tokB]
  rw [this]
theorem KInv.start {room life : Int} {tok ann what : ByteArray} {thing : Int} (hr : 1 ≤ room) (one : (Value.int .i64 thing).oneCell' = true) :
    KInv room life tok ann what thing ⟨room, life, 1000, [⟨tok, ann, what, 1000, .int .i64 thing, one⟩]⟩ 0 :=
  ⟨rfl, rfl, rfl, by simp; omega, by simp, fun _ => ⟨one, [], rfl, by simp⟩, fun h => absurd h (by omega)⟩
end Go.Proofs.YtefacagkjcmeeaaDoor
