/- value.Members, the walk. -/
import Derived.Test.YtiehdfokcnphdaaGreatDoorMe
namespace Go.Proofs.YtiehdfokcnphdaaGreatDoor
open Go.RowKit

theorem perm_lift {α β : Type} {f : α → β} {l zs0 : List β} (h : l.Perm zs0) : ∀ Z : List α, Z.map f = zs0 → ∃ Z' : List α, Z'.Perm Z ∧ Z'.map f = l := by
  induction h with
  | nil => intro Z hZ; exact ⟨Z, List.Perm.refl _, hZ⟩
  | cons x h ih =>
    intro Z hZ
    cases Z with
    | nil => simp at hZ
    | cons z Z =>
      simp at hZ
      obtain ⟨Z', h1, h2⟩ := ih Z hZ.2
      exact ⟨z :: Z', h1.cons z, by simp [h2, hZ.1]⟩
  | swap x y l =>
    intro Z hZ
    match Z, hZ with
    | a :: b :: Z, hZ =>
      simp at hZ
      exact ⟨b :: a :: Z, List.Perm.swap a b Z, by simp [hZ.1, hZ.2.1, hZ.2.2]⟩
  | trans h1 h2 ih1 ih2 =>
    intro Z hZ
    obtain ⟨Z1, a1, a2⟩ := ih2 Z hZ
    obtain ⟨Z2, b1, b2⟩ := ih1 Z1 a2
    exact ⟨Z2, b1.trans a1, b2⟩
theorem perm_pair {zs l' : List Mb} {M : List (ByteArray × V)} (hl : zs.length = M.length) (hp : l'.Perm zs) :
    ∃ M' : List (ByteArray × V), M'.Perm M ∧ l'.length = M'.length ∧ ∀ (i : Nat) (m : Mb) (kv : ByteArray × V), l'[i]? = some m → M'[i]? = some kv → ∃ j : Nat, zs[j]? = some m ∧ M[j]? = some kv := by
  obtain ⟨Z, h1, h2⟩ := perm_lift hp (zs.zip M) (List.map_fst_zip (by omega))
  refine ⟨Z.map Prod.snd, ?_, by rw [← h2]; simp, ?_⟩
  · have := h1.map Prod.snd
    rw [List.map_snd_zip (by omega)] at this
    exact this
  · intro i m kv hm hkv
    rw [← h2] at hm
    simp only [List.getElem?_map] at hm hkv
    cases hz : Z[i]? with
    | none => rw [hz] at hm; cases hm
    | some z =>
      rw [hz] at hm hkv
      simp at hm hkv
      have hmem := h1.mem_iff.1 (List.mem_of_getElem? hz)
      obtain ⟨j, hj⟩ := List.mem_iff_getElem?.1 hmem
      rw [List.getElem?_zip_eq_some] at hj
      exact ⟨j, by rw [hj.1, hm], by rw [hj.2, hkv]⟩
theorem getElem_unique {l : List Mb} (h : (l.map (·.key)).Nodup) {i j : Nat} {a b : Mb} (hi : l[i]? = some a) (hj : l[j]? = some b) (hne : i ≠ j) : (a.key.toList == b.key.toList) = false := by
  rw [beq_eq_false_iff_ne]
  intro e
  have e2 := bytes_inj e
  have h1 : (l.map (·.key))[i]? = some a.key := by simp [hi]
  have h2 : (l.map (·.key))[j]? = some b.key := by simp [hj]
  rw [← e2] at h2
  obtain ⟨k1, q1⟩ := List.getElem?_eq_some_iff.1 h1
  obtain ⟨k2, q2⟩ := List.getElem?_eq_some_iff.1 h2
  exact hne ((List.getElem_inj h).1 (q1.trans q2.symm))
theorem keys_of {zs : List Mb} {M : List (ByteArray × V)} (hl : zs.length = M.length) (hk : ∀ (i : Nat) (m : Mb) (kv : ByteArray × V), zs[i]? = some m → M[i]? = some kv → m.key = kv.1) : zs.map (·.key) = M.map (·.1) := by
  apply List.ext_getElem?
  intro i
  simp only [List.getElem?_map]
  by_cases hi : i < zs.length
  · have h1 : zs[i]? = some zs[i] := List.getElem?_eq_getElem hi
    have h2 : M[i]? = some (M[i]'(by omega)) := List.getElem?_eq_getElem (by omega)
    rw [h1, h2]
    simp [hk i _ _ h1 h2]
  · rw [List.getElem?_eq_none (by omega), List.getElem?_eq_none (by omega)]; rfl

theorem field_map (k : Int) (y : Bool) (i : Int) (s : ByteArray) (A B : Option Addr) (n c m d : Nat) (w : World) : (Instr.field 44 (.agg #[.int .i64 k, .bool y, .int .i64 i, .string s, .slice A n c, .slice B m d]) 5).run Tryz.prog w = .ok (.slice B m d) w := by kernel_rfl

set_option maxRecDepth 100000 in
set_option maxHeartbeats 1600000 in
theorem members_calls (w : World) (P : Nat → Prop) (s : Sl) (M : List (ByteArray × V)) (hn : M.length ≤ 19) (hnd : (M.map (·.1)).Nodup)
    (h : RepV w P ⟨0, false, 0, ⟨#[]⟩, ⟨none, 0, 0⟩, s⟩ (.mk 0 false 0 ⟨#[]⟩ [] M)) :
    Calls Tryz.prog 11 #[.slice s.a s.n s.c] w fun e w' => ∃ (x' : V6) (M' : List (ByteArray × V)), e = .returned (.tuple #[.agg x'.cells, .nilIface]) ∧
      RepV w' (fun g => w.heap.size ≤ g) x' (.mk 5 false 0 ⟨#[]⟩ [] M') ∧ M'.Perm M ∧ Below w.heap.size w w' := by
  obtain ⟨W1, hW1⟩ : ∃ W1, W1 = w.alloc (.cells #[.int .i64 0, .bool false, .int .i64 0, .string ⟨#[]⟩, .slice none 0 0, .slice none 0 0] 44) := ⟨_, rfl⟩
  have hb1 : Below w.heap.size w W1 := by rw [hW1]; exact (Below.refl _ _).alloc (Nat.le_refl _) _
  have hr1 : W1.heap[w.heap.size]? = some (.cells #[.int .i64 0, .bool false, .int .i64 0, .string ⟨#[]⟩, .slice none 0 0, .slice none 0 0] 44 (0, 0)) := by rw [hW1]; exact heap_new _ _
  have hs1 : W1.heap.size = w.heap.size + 1 := by rw [hW1]; simp
  have HC := Lib.hid (copy_calls W1 P _ _ (h.same hb1.size (fun g hg _ => hb1.block g hg)))
  have HW1 := Lib.hid hW1
  have HB1 := Lib.hid hb1
  have HR1 := Lib.hid hr1
  have HND := Lib.hid hnd
  have hfm := field_map
  clear h hW1 hb1 hr1 hnd
  go_enter Tryz.func11, Tryz.ntmps11
  go_wp2_with fail
  rw [← HW1.out]
  refine HC.out.mono ?_
  rintro e w2 ⟨⟨xk, xy, xi, xt, xl, ⟨xa, xn, xc⟩⟩, rfl, _, hb2, N, L, M0, ys, zs, hNlo, hv, hrep⟩
  dsimp only at hv
  injection hv with v1 v2 v3 v4 v5 v6
  subst v5 v6
  have hr2 := (hb2.block w.heap.size (by omega)).trans HR1.out
  have hs2 := hb2.size
  have HB2 := Lib.hid (HB1.out.trans (hb2.mono HB1.out.size))
  have HREP := Lib.hid hrep
  have hzl : zs.length = M.length := hrep.lenM
  have hmn : xn = zs.length := by have := hrep.rowM.1; simpa using this
  have HR2 := Lib.hid hr2
  clear HC HW1 HR1 hb2 hr2 hrep v1 v2 v3 v4
  rcases HREP.out.rowM.2.2 with ⟨hsn, hz0⟩ | ⟨r, ha, hrc, ⟨hrlo, hrN⟩, hrlt, hrw⟩
  · have hz0 : zs = [] := by simpa using hz0
    have hM0 : M = [] := by rw [hz0] at hzl; exact List.length_eq_zero_iff.1 hzl.symm
    have HM0 := Lib.hid hM0
    injection hsn with q1 q2 q3
    subst q1 q2 q3
    clear hz0 hM0 hzl hmn
    simp only [V6.cells]
    go_wp2_with fail
    refine (sorts_nil w2).mono ?_
    rintro e w3 ⟨rfl, rfl⟩
    go_wp2_with fail
    have hr2 := HR2.out
    have hrl := (Array.getElem?_eq_some_iff.1 hr2).1
    have z0 : w3.cell? ⟨w.heap.size, 0, none⟩ = some (.int .i64 0) := by simp [World.cell?, hr2]
    have z1 : w3.cell? ⟨w.heap.size, 1, none⟩ = some (.bool false) := by simp [World.cell?, hr2]
    have z2 : w3.cell? ⟨w.heap.size, 2, none⟩ = some (.int .i64 0) := by simp [World.cell?, hr2]
    have z3 : w3.cell? ⟨w.heap.size, 3, none⟩ = some (.string ⟨#[]⟩) := by simp [World.cell?, hr2]
    have z4 : w3.cell? ⟨w.heap.size, 4, none⟩ = some (.slice none 0 0) := by simp [World.cell?, hr2]
    have z5 : w3.cell? ⟨w.heap.size, 5, none⟩ = some (.slice none 0 0) := by simp [World.cell?, hr2]
    have hfz : ∀ o, w3.frozen? ⟨w.heap.size, o, none⟩ = false := fun o => by simp [World.frozen?, hr2]
    clear hr2
    go_loopw [15] (fun c wr => c = .int .i64 0 ∧ wr = w3) (fun _ _ => 0)
    case atStart => exact ⟨rfl, rfl⟩
    case round =>
      obtain ⟨rfl, rfl⟩ := hrel
      go_wp2_with fail
      refine bodyPost_ret (results_row_tmp rfl _ _ w.heap.size 44 _ (0, 0) _ rfl (six_heap HR2.out rfl) Tryz.underlying44 rfl (by kernel_rfl)) rfl ?_
      refine ⟨⟨5, false, 0, ⟨#[]⟩, ⟨none, 0, 0⟩, ⟨none, 0, 0⟩⟩, [], rfl, RepV.leaf _ _ _ _ _ _, by rw [HM0.out], ?_⟩
      exact HB2.out.grown (setCells_grown w.heap.size [.int .i64 5, .bool false, .int .i64 0, .string ⟨#[]⟩, .slice none 0 0, .slice none 0 0] 0 _) HB2.out.size (fun j hj => by injection hj with hj; omega)
  · dsimp only at ha hrc hrw
    subst ha
    have hlen : zs.length ≤ 19 := by omega
    clear hzl
    have HS := Lib.hid (sorts_calls w2 r xc zs hlen hrw)
    have HKEYS := Lib.hid (keys_of HREP.out.lenM HREP.out.keyM)
    clear hrw
    simp only [V6.cells, hmn]
    go_wp2_with fail
    refine HS.out.mono ?_
    rintro e w3 ⟨rfl, l', ⟨hperm, hsorted⟩, hrw3, hg3⟩
    have hll : l'.length = zs.length := hperm.length_eq
    have HP := Lib.hid hperm
    have HRW := Lib.hid hrw3
    have HG := Lib.hid hg3
    have hnd' : (l'.map (·.key)).Nodup := (hperm.map (·.key)).nodup_iff.2 (by rw [HKEYS.out]; exact HND.out)
    have HND2 := Lib.hid hnd'
    have hr3 := (hg3.block w.heap.size (by omega) (by intro e; injection e with e; omega)).trans HR2.out
    have HR3 := Lib.hid hr3
    have hs3 := hg3.size
    clear HS hperm hsorted hrw3 hg3 hnd' hr3 HND HKEYS
    rw [← hll]
    go_wp2_with fail
    go_loopw [15] (fun c wr => ∃ i : Nat, i ≤ l'.length ∧ c = .int .i64 i ∧ Below w3.heap.size w3 wr) (fun c _ => l'.length - (intOf c).toNat)
    case atStart => exact ⟨0, by omega, rfl, Below.refl _ _⟩
    case round =>
      obtain ⟨i, hi, rfl, hb⟩ := hrel
      have HB := Lib.hid hb
      have hbs := hb.size
      have hrw := HRW.out.below hb HRW.out.lt
      have hrl := hrw.lt
      by_cases hlt : i < l'.length
      · have hm : l'[i]? = some l'[i] := List.getElem?_eq_getElem hlt
        generalize l'[i] = m at hm
        have hyc : (mcells l')[i]? = some m.cells.toList := by simp [hm]
        have c0 : wr.cell? ⟨r, i * 7, none⟩ = some (.string m.key) := hrw.cell (d := 0) hyc rfl
        have c1 : wr.cell? ⟨r, i * 7 + 1, none⟩ = some (.int .i64 m.v.kind) := hrw.cell (d := 1) hyc rfl
        have c2 : wr.cell? ⟨r, i * 7 + 2, none⟩ = some (.bool m.v.yes) := hrw.cell (d := 2) hyc rfl
        have c3 : wr.cell? ⟨r, i * 7 + 3, none⟩ = some (.int .i64 m.v.int) := hrw.cell (d := 3) hyc rfl
        have c4 : wr.cell? ⟨r, i * 7 + 4, none⟩ = some (.string m.v.text) := hrw.cell (d := 4) hyc rfl
        have c5 : wr.cell? ⟨r, i * 7 + 5, none⟩ = some (.slice m.v.list.a m.v.list.n m.v.list.c) := hrw.cell (d := 5) hyc rfl
        have c6 : wr.cell? ⟨r, i * 7 + 6, none⟩ = some (.slice m.v.map.a m.v.map.n m.v.map.c) := hrw.cell (d := 6) hyc rfl
        by_cases hi0 : i = 0
        · subst hi0
          clear hb hrw hm hyc
          go_wp2_with fail
          go_quiet (fail)
          go_wp2_with fail
          exact ⟨⟨1, by omega, by go_num, below_drewN' (HB.out.alloc HB.out.size _) _⟩, by simp [intOf]; omega⟩
        · obtain ⟨k, rfl⟩ : ∃ k, i = k + 1 := ⟨i - 1, by omega⟩
          have hp : l'[k]? = some l'[k] := List.getElem?_eq_getElem (by omega)
          generalize l'[k] = p at hp
          have hyp : (mcells l')[k]? = some p.cells.toList := by simp [hp]
          have d0 : wr.cell? ⟨r, k * 7, none⟩ = some (.string p.key) := hrw.cell (d := 0) hyp rfl
          have hne : (p.key.toList == m.key.toList) = false := getElem_unique HND2.out hp hm (by omega)
          have hgt : decide ((0 : Int) < (k : Int) + 1) = true := by rw [decide_eq_true_eq]; omega
          clear hb hrw hm hyc hp hyp
          go_wp2_with fail
          go_quiet (fail)
          go_wp2_with fail
          exact ⟨⟨k + 1 + 1, by omega, by go_num, below_drewN' (HB.out.alloc HB.out.size _) _⟩, by simp [intOf]; omega⟩
      · obtain rfl : i = l'.length := by omega
        have hr2 := (hb.block w.heap.size (by omega)).trans HR3.out
        have hrl2 := (Array.getElem?_eq_some_iff.1 hr2).1
        have z0 : wr.cell? ⟨w.heap.size, 0, none⟩ = some (.int .i64 0) := by simp [World.cell?, hr2]
        have z1 : wr.cell? ⟨w.heap.size, 1, none⟩ = some (.bool false) := by simp [World.cell?, hr2]
        have z2 : wr.cell? ⟨w.heap.size, 2, none⟩ = some (.int .i64 0) := by simp [World.cell?, hr2]
        have z3 : wr.cell? ⟨w.heap.size, 3, none⟩ = some (.string ⟨#[]⟩) := by simp [World.cell?, hr2]
        have z4 : wr.cell? ⟨w.heap.size, 4, none⟩ = some (.slice none 0 0) := by simp [World.cell?, hr2]
        have z5 : wr.cell? ⟨w.heap.size, 5, none⟩ = some (.slice none 0 0) := by simp [World.cell?, hr2]
        have hfz : ∀ o, wr.frozen? ⟨w.heap.size, o, none⟩ = false := fun o => by simp [World.frozen?, hr2]
        have HR4 := Lib.hid hr2
        have HRW4 := Lib.hid hrw
        clear hr2 hrw hb
        go_wp2_with fail
        refine bodyPost_ret (results_row_tmp rfl _ _ w.heap.size 44 _ (0, 0) _ rfl (six_heap HR4.out rfl) Tryz.underlying44 rfl (by kernel_rfl)) rfl ?_
        rw [← hll]
        obtain ⟨M', hM', hl2, hpair⟩ := perm_pair HREP.out.lenM HP.out
        have hgs := setCells_grown w.heap.size [.int .i64 5, .bool false, .int .i64 0, .string ⟨#[]⟩, .slice none 0 0, .slice (some ⟨r, 0, none⟩) l'.length xc] 0 wr
        have hframe : ∀ g, g < w2.heap.size → N ≤ g → (wr.setCells w.heap.size 0 [.int .i64 5, .bool false, .int .i64 0, .string ⟨#[]⟩, .slice none 0 0, .slice (some ⟨r, 0, none⟩) l'.length xc]).heap[g]? = w2.heap[g]? := fun g hg hN =>
          (setCells_other _ _ _ wr g (by omega)).trans ((HB.out.block g (by omega)).trans (HG.out.block g hg (by intro e; injection e with e; omega)))
        have hrwf : Rw (wr.setCells w.heap.size 0 [.int .i64 5, .bool false, .int .i64 0, .string ⟨#[]⟩, .slice none 0 0, .slice (some ⟨r, 0, none⟩) l'.length xc]) 48 r xc 7 (mcells l') := HRW4.out.same (setCells_other _ _ _ wr r (by omega))
        have hrlf : r < (wr.setCells w.heap.size 0 [.int .i64 5, .bool false, .int .i64 0, .string ⟨#[]⟩, .slice none 0 0, .slice (some ⟨r, 0, none⟩) l'.length xc]).heap.size := Nat.lt_of_lt_of_le hrl hgs.size
        refine ⟨⟨5, false, 0, ⟨#[]⟩, ⟨none, 0, 0⟩, ⟨some ⟨r, 0, none⟩, l'.length, xc⟩⟩, M', rfl, ?_, hM', ?_⟩
        · refine RepV.mk ⟨5, false, 0, ⟨#[]⟩, ⟨none, 0, 0⟩, ⟨some ⟨r, 0, none⟩, l'.length, xc⟩⟩ [] M' [] l' ⟨rfl, by simp, .inl ⟨rfl, rfl⟩⟩ ?_ rfl hl2 (by simp) ?_ ?_
          · refine ⟨by simp, by simp; omega, .inr ⟨r, rfl, ?_, by show w.heap.size ≤ r; omega, ?_, ?_⟩⟩
            · show l'.length ≤ xc
              omega
            · exact hrlf
            · exact hrwf
          · intro i m kv hm hkv
            obtain ⟨j, h1, h2⟩ := hpair i m kv hm hkv
            exact HREP.out.keyM j m kv h1 h2
          · intro i m kv hm hkv
            obtain ⟨j, h1, h2⟩ := hpair i m kv hm hkv
            exact ((HREP.out.elM j m kv h1 h2).same (Nat.le_trans hs3 (Nat.le_trans hbs hgs.size)) hframe).mono (fun g _ hg => by omega)
        · have h1 : Below w.heap.size w w3 := HB2.out.grown HG.out HB2.out.size (fun j hj => by injection hj with hj; omega)
          have h2 : Below w.heap.size w wr := h1.trans (HB.out.mono h1.size)
          exact h2.grown hgs h2.size (fun j hj => by injection hj with hj; omega)
end Go.Proofs.YtiehdfokcnphdaaGreatDoor
