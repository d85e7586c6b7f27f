/- The plain side of PageClears: what a book holds behind puts at times that never go back. No walk. -/
import Derived.Test.YtefacagkjcmeeaaDoorA
namespace Go.Proofs.YtefacagkjcmeeaaDoor
open Go.RowKit

/-- What is not over: the times at which it was put in. -/
def livesOn (k now : Int) (ts : List Int) : List Int := ts.filter fun t => decide (now - t < k)

theorem keep_born {k now : Int} {l : List Kp} (hk0 : 0 ≤ k) (hk : k < 18446744073709551616) (h : ∀ q ∈ l, 0 ≤ now - q.born ∧ now - q.born < 18446744073709551616) :
    (keep (overB k now) l).map (·.born) = livesOn k now (l.map (·.born)) := by
  unfold livesOn
  rw [List.filter_map]
  congr 1
  apply List.filter_congr
  intro q hq
  obtain ⟨h1, h2⟩ := h q hq
  rw [overB_eq hk0 hk h1 h2]
  simp only [Function.comp]
  by_cases hh : k ≤ now - q.born
  · simp [hh]
  · simp [hh]; omega

theorem lives_lives {k n1 n2 : Int} (h : n1 ≤ n2) (ts : List Int) : livesOn k n2 (livesOn k n1 ts) = livesOn k n2 ts := by
  unfold livesOn
  rw [List.filter_filter]
  apply List.filter_congr
  intro t _
  by_cases h2 : n2 - t < k
  · have : n1 - t < k := by omega
    simp [h2, this]
  · simp [h2]
theorem lives_snoc {k now : Int} (hk : 0 < k) (ts : List Int) : livesOn k now (ts ++ [now]) = livesOn k now ts ++ [now] := by
  unfold livesOn
  rw [List.filter_append]
  congr 1
  simp [hk]
theorem lives_none {k now n : Int} {ts : List Int} (h : ∀ t ∈ ts, t ≤ now) (hn : now + k ≤ n) : livesOn k n ts = [] := by
  unfold livesOn
  rw [List.filter_eq_nil_iff]
  intro t ht
  have := h t ht
  simp
  omega
theorem lives_length (k now : Int) (ts : List Int) : (livesOn k now ts).length ≤ ts.length := List.length_filter_le _ _
theorem lives_self (k now : Int) (ts : List Int) : livesOn k now (livesOn k now ts) = livesOn k now ts := lives_lives (Int.le_refl _) ts

/-- A book behind puts at these times, the last at 'now'. -/
structure CInv (k : Int) (b : BK) (ts : List Int) (now : Int) : Prop where
  most : b.most = 20
  life : b.life = k
  time : b.now = now ∨ (b.now = -9223372036854775808 ∧ ts = [])
  born : b.l.map (·.born) = livesOn k now ts
  bound : ∀ t ∈ ts, 0 ≤ t ∧ t ≤ now

theorem CInv.mem {k : Int} {b : BK} {ts : List Int} {now : Int} (h : CInv k b ts now) : ∀ q ∈ b.l, 0 ≤ q.born ∧ q.born ≤ now := by
  intro q hq
  have : q.born ∈ b.l.map (·.born) := List.mem_map.2 ⟨q, hq, rfl⟩
  rw [h.born] at this
  exact h.bound _ (List.mem_filter.1 this).1
theorem CInv.clear {k : Int} {b : BK} {ts : List Int} {now n : Int} (h : CInv k b ts now) (hk0 : 0 < k) (hk : k ≤ 256) (h0 : 0 ≤ now) (hn : now ≤ n) (hn2 : n ≤ 1000) : CInv k (b.clear n) ts n ∧ (b.clear n).now = n := by
  have hm : max b.now n = n := by
    rcases h.time with h | ⟨h, _⟩ <;> rw [h] <;> omega
  refine ⟨⟨h.most, h.life, .inl hm, ?_, fun t ht => ⟨(h.bound t ht).1, Int.le_trans (h.bound t ht).2 hn⟩⟩, hm⟩
  simp only [BK.clear, hm, h.life]
  rw [keep_born (by omega) (by omega) (fun q hq => by have := h.mem q hq; omega), h.born, lives_lives hn]
theorem CInv.length {k : Int} {b : BK} {ts : List Int} {now : Int} (h : CInv k b ts now) : b.l.length = (livesOn k now ts).length := by rw [← h.born]; simp
theorem CInv.put {k : Int} {b : BK} {ts : List Int} {now n : Int} (h : CInv k b ts now) (hk0 : 0 < k) (hk : k ≤ 256) (h0 : 0 ≤ now) (hn : now ≤ n) (hn2 : n ≤ 1000) (hts : ts.length < 20) (q : Kp) (hq : q.born = (b.shed n).now) :
    CInv k { b.shed n with l := (b.shed n).l ++ [q] } (ts ++ [n]) n := by
  obtain ⟨hc, hnow⟩ := h.clear hk0 hk h0 hn hn2
  have hl : (b.clear n).l.length < 20 := by rw [hc.length]; have := lives_length k n ts; omega
  have hs : b.shed n = b.clear n := by
    unfold BK.shed
    rw [if_neg]
    rw [hc.most]; omega
  rw [hs] at hq ⊢
  rw [hnow] at hq
  refine ⟨hc.most, hc.life, .inl hnow, ?_, ?_⟩
  · simp only [List.map_append, List.map_cons, List.map_nil]
    rw [hc.born, lives_snoc hk0, hq]
  · intro t ht
    rcases List.mem_append.1 ht with ht | ht
    · exact hc.bound t ht
    · simp at ht; omega
end Go.Proofs.YtefacagkjcmeeaaDoor
