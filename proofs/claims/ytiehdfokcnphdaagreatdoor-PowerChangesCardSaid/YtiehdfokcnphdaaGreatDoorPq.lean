/- power.Read, of a content that is told right: numbers, and at most one user. -/
import Derived.Test.YtiehdfokcnphdaaGreatDoorPs
namespace Go.Proofs.YtiehdfokcnphdaaGreatDoor
open Go.RowKit

abbrev kBan : ByteArray := ⟨#[98, 97, 110]⟩
abbrev kEvents : ByteArray := ⟨#[101, 118, 101, 110, 116, 115]⟩
abbrev kEvent : ByteArray := ⟨#[101, 118, 101, 110, 116, 115, 95, 100, 101, 102, 97, 117, 108, 116]⟩
abbrev kInvite : ByteArray := ⟨#[105, 110, 118, 105, 116, 101]⟩
abbrev kKick : ByteArray := ⟨#[107, 105, 99, 107]⟩
abbrev kRedact : ByteArray := ⟨#[114, 101, 100, 97, 99, 116]⟩
abbrev kState : ByteArray := ⟨#[115, 116, 97, 116, 101, 95, 100, 101, 102, 97, 117, 108, 116]⟩
abbrev kUsers : ByteArray := ⟨#[117, 115, 101, 114, 115]⟩
abbrev kUser : ByteArray := ⟨#[117, 115, 101, 114, 115, 95, 100, 101, 102, 97, 117, 108, 116]⟩
def V.kindOf : V → Int
  | .mk k _ _ _ _ _ => k
def V.intOf : V → Int
  | .mk _ _ i _ _ _ => i
def numOf (v : V) (key : ByteArray) (d : Int) : Int := match v.get key with
  | some u => u.intOf
  | none => d
/-- The levels behind the first i parts. -/
def lvAt (v : V) (i : Nat) (s : Sl) : Lv where
  ban := if 0 < i then numOf v kBan 50 else 50
  kick := if 4 < i then numOf v kKick 50 else 50
  redact := if 5 < i then numOf v kRedact 50 else 50
  invite := if 3 < i then numOf v kInvite 0 else 0
  state := if 6 < i then numOf v kState 50 else 50
  event := if 2 < i then numOf v kEvent 0 else 0
  user := if 8 < i then numOf v kUser 0 else 0
  events := ⟨none, 0, 0⟩
  users := if 7 < i then s else ⟨none, 0, 0⟩
theorem pts_cases {i : Nat} {p : Pt} (h : pts[i]? = some p) : i < 9 ∧ ((∃ key j, p = ⟨key, some j, none⟩ ∧ j < 9 ∧ i ≠ 1 ∧ i ≠ 7) ∨ (i = 1 ∧ p = ⟨kEvents, none, some 7⟩) ∨ (i = 7 ∧ p = ⟨kUsers, none, some 8⟩)) := by
  have hi : i < 9 := (List.getElem?_eq_some_iff.1 h).1
  refine ⟨hi, ?_⟩
  obtain rfl | rfl | rfl | rfl | rfl | rfl | rfl | rfl | rfl : i = 0 ∨ i = 1 ∨ i = 2 ∨ i = 3 ∨ i = 4 ∨ i = 5 ∨ i = 6 ∨ i = 7 ∨ i = 8 := by omega
  all_goals
    simp [pts] at h
    subst h
    first
    | exact .inl ⟨_, _, rfl, by omega, by omega, by omega⟩
    | exact .inr (.inl ⟨rfl, rfl⟩)
    | exact .inr (.inr ⟨rfl, rfl⟩)
theorem step_some {v u : V} {i j : Nat} {key : ByteArray} {s : Sl} (h : pts[i]? = some ⟨key, some j, none⟩) (hu : v.get key = some u) : (lvAt v i s).cells.setIfInBounds j (.int .i64 u.intOf) = (lvAt v (i + 1) s).cells := by
  have hi : i < 9 := (List.getElem?_eq_some_iff.1 h).1
  obtain rfl | rfl | rfl | rfl | rfl | rfl | rfl | rfl | rfl : i = 0 ∨ i = 1 ∨ i = 2 ∨ i = 3 ∨ i = 4 ∨ i = 5 ∨ i = 6 ∨ i = 7 ∨ i = 8 := by omega
  all_goals
    simp [pts] at h
    try obtain ⟨rfl, rfl⟩ := h
    try simp [lvAt, numOf, hu]
theorem step_none {v : V} {i j : Nat} {key : ByteArray} {s : Sl} (h : pts[i]? = some ⟨key, some j, none⟩) (hu : v.get key = none) : (lvAt v i s).cells = (lvAt v (i + 1) s).cells := by
  have hi : i < 9 := (List.getElem?_eq_some_iff.1 h).1
  obtain rfl | rfl | rfl | rfl | rfl | rfl | rfl | rfl | rfl : i = 0 ∨ i = 1 ∨ i = 2 ∨ i = 3 ∨ i = 4 ∨ i = 5 ∨ i = 6 ∨ i = 7 ∨ i = 8 := by omega
  all_goals
    simp [pts] at h
    try obtain ⟨rfl, rfl⟩ := h
    try simp [lvAt, numOf, hu]
theorem step_events (v : V) (s : Sl) : (lvAt v 1 s).cells = (lvAt v 2 s).cells := by simp [lvAt]
theorem step_users (v : V) (s s' : Sl) : (lvAt v 7 s).cells.setIfInBounds 8 (.slice s'.a s'.n s'.c) = (lvAt v 8 s').cells := by simp [lvAt]
theorem step_users0 (v : V) (s : Sl) : (lvAt v 7 s).cells = (lvAt v 8 ⟨none, 0, 0⟩).cells := by simp [lvAt]

/-- What the content tells of its users. -/
def UsersAre (v : V) (ul : List Nm) : Prop := (v.get kUsers = none ∧ ul = []) ∨ ∃ (y : Bool) (i : Int) (t : ByteArray) (name : ByteArray) (vm : V), v.get kUsers = some (.mk 5 y i t [] [(name, vm)]) ∧ vm.kindOf = 2 ∧ isB 2 name.data.toList = true ∧ name.size < 4294967281 ∧ ul = [⟨name, vm.intOf⟩]
theorem RepV.kind {w : World} {P : Nat → Prop} {x : V6} {v : V} (h : RepV w P x v) : x.kind = v.kindOf ∧ x.int = v.intOf := by
  cases h
  exact ⟨rfl, rfl⟩
theorem RepV.single {w : World} {P : Nat → Prop} {x : V6} {k : Int} {y : Bool} {i : Int} {t name : ByteArray} {vm : V} (h : RepV w P x (.mk k y i t [] [(name, vm)])) : x.kind = k ∧ ∃ m : Mb, m.key = name ∧ m.v.kind = vm.kindOf ∧ m.v.int = vm.intOf ∧ RowOf w P 48 7 x.map (mcells [m]) := by
  cases h with
  | mk x L M xs ms hL hM lenL lenM elL keyM elM =>
    refine ⟨rfl, ?_⟩
    match ms, lenM with
    | [m], _ => exact ⟨m, keyM 0 m _ rfl rfl, (elM 0 m _ rfl rfl).kind.1, (elM 0 m _ rfl rfl).kind.2, hM⟩
end Go.Proofs.YtiehdfokcnphdaaGreatDoor
