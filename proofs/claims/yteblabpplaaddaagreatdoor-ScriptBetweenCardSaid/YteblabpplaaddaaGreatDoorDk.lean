/- The document's reading: names, kinds and patterns: the walks of question, kind, pattern (printed by gen_dk.py). -/
import Derived.Test.YteblabpplaaddaaGreatDoorDq
set_option linter.unusedVariables false
set_option linter.unusedSimpArgs false
namespace Go.Proofs.YteblabpplaaddaaGreatDoor
open Go.RowKit Go.Mine Go.Mine.Sc

/-- a question's name -/
def qnameI (k : Int) : B := match qnames.find? (fun p => p.1 == k) with | some p => p.2 | none => []
def QK (k : Int) : Prop := 1 ≤ k ∧ k ≤ 12
theorem qnameI_no {k : Int} (h : ¬ QK k) : qnameI k = [] := by
  unfold qnameI
  have : qnames.find? (fun p => p.1 == k) = none := by
    rw [List.find?_eq_none]
    intro p hp
    have : p.1 ∈ qnames.map (·.1) := List.mem_map_of_mem hp
    rw [show qnames.map (·.1) = [1, 2, 3, 4, 5, 6, 7, 8, 9, 10, 11, 12] from by decide +kernel] at this
    simp only [List.mem_cons, List.not_mem_nil, or_false] at this
    simp only [beq_iff_eq]
    intro q
    exact h (by rw [← q]; unfold QK; omega)
  rw [this]

set_option maxRecDepth 100000 in
set_option maxHeartbeats 2000000 in
theorem question_any (k : Int) (w : World) : Calls Tryz.prog 72 #[.int .i64 k] w fun e w' => e = .returned (.string (bs (qnameI k))) ∧ w = w' := by
  by_cases hk : QK k
  · have : k = 1 ∨ k = 2 ∨ k = 3 ∨ k = 4 ∨ k = 5 ∨ k = 6 ∨ k = 7 ∨ k = 8 ∨ k = 9 ∨ k = 10 ∨ k = 11 ∨ k = 12 := by have h1 := hk.1; have h2 := hk.2; omega
    clear hk
    rcases this with rfl | rfl | rfl | rfl | rfl | rfl | rfl | rfl | rfl | rfl | rfl | rfl
    · go_enter Tryz.func72, Tryz.ntmps72
      go_wp2
      go_ret
      exact ⟨rfl, rfl⟩
    · go_enter Tryz.func72, Tryz.ntmps72
      go_wp2
      go_ret
      exact ⟨rfl, rfl⟩
    · go_enter Tryz.func72, Tryz.ntmps72
      go_wp2
      go_ret
      exact ⟨rfl, rfl⟩
    · go_enter Tryz.func72, Tryz.ntmps72
      go_wp2
      go_ret
      exact ⟨rfl, rfl⟩
    · go_enter Tryz.func72, Tryz.ntmps72
      go_wp2
      go_ret
      exact ⟨rfl, rfl⟩
    · go_enter Tryz.func72, Tryz.ntmps72
      go_wp2
      go_ret
      exact ⟨rfl, rfl⟩
    · go_enter Tryz.func72, Tryz.ntmps72
      go_wp2
      go_ret
      exact ⟨rfl, rfl⟩
    · go_enter Tryz.func72, Tryz.ntmps72
      go_wp2
      go_ret
      exact ⟨rfl, rfl⟩
    · go_enter Tryz.func72, Tryz.ntmps72
      go_wp2
      go_ret
      exact ⟨rfl, rfl⟩
    · go_enter Tryz.func72, Tryz.ntmps72
      go_wp2
      go_ret
      exact ⟨rfl, rfl⟩
    · go_enter Tryz.func72, Tryz.ntmps72
      go_wp2
      go_ret
      exact ⟨rfl, rfl⟩
    · go_enter Tryz.func72, Tryz.ntmps72
      go_wp2
      go_ret
      exact ⟨rfl, rfl⟩
  · rw [qnameI_no hk]
    have e1 : (k == 1) = false := by simp; intro q; exact hk (by rw [q]; exact ⟨by decide, by decide⟩)
    have e2 : (k == 2) = false := by simp; intro q; exact hk (by rw [q]; exact ⟨by decide, by decide⟩)
    have e3 : (k == 3) = false := by simp; intro q; exact hk (by rw [q]; exact ⟨by decide, by decide⟩)
    have e4 : (k == 4) = false := by simp; intro q; exact hk (by rw [q]; exact ⟨by decide, by decide⟩)
    have e5 : (k == 5) = false := by simp; intro q; exact hk (by rw [q]; exact ⟨by decide, by decide⟩)
    have e6 : (k == 6) = false := by simp; intro q; exact hk (by rw [q]; exact ⟨by decide, by decide⟩)
    have e7 : (k == 7) = false := by simp; intro q; exact hk (by rw [q]; exact ⟨by decide, by decide⟩)
    have e8 : (k == 8) = false := by simp; intro q; exact hk (by rw [q]; exact ⟨by decide, by decide⟩)
    have e9 : (k == 9) = false := by simp; intro q; exact hk (by rw [q]; exact ⟨by decide, by decide⟩)
    have e10 : (k == 10) = false := by simp; intro q; exact hk (by rw [q]; exact ⟨by decide, by decide⟩)
    have e11 : (k == 11) = false := by simp; intro q; exact hk (by rw [q]; exact ⟨by decide, by decide⟩)
    have e12 : (k == 12) = false := by simp; intro q; exact hk (by rw [q]; exact ⟨by decide, by decide⟩)
    clear hk
    go_enter Tryz.func72, Tryz.ntmps72
    go_wp2
    go_ret
    exact ⟨rfl, rfl⟩

set_option maxRecDepth 100000 in
set_option maxHeartbeats 4000000 in
theorem pattern_any (k : Int) (hk : k = 0 ∨ k = 1 ∨ k = 2 ∨ k = 3 ∨ k = 4 ∨ k = 5 ∨ k = 6 ∨ k = 7 ∨ k = 8 ∨ k = 9 ∨ k = 10 ∨ k = 11 ∨ k = 13 ∨ k = 14 ∨ k = 101 ∨ k = 102 ∨ k = 103 ∨ k = 104 ∨ k = 105 ∨ k = 106 ∨ k = 107 ∨ k = 108 ∨ k = 109 ∨ k = 110 ∨ k = 111 ∨ k = 112) (w : World) : Calls Tryz.prog 75 #[.int .i64 k] w fun e w' => e = .returned (.string (bs (patt k))) ∧ w = w' := by
  rcases hk with rfl | rfl | rfl | rfl | rfl | rfl | rfl | rfl | rfl | rfl | rfl | rfl | rfl | rfl | rfl | rfl | rfl | rfl | rfl | rfl | rfl | rfl | rfl | rfl | rfl | rfl
  · go_enter Tryz.func75, Tryz.ntmps75
    go_wp2
    go_ret
    exact ⟨rfl, rfl⟩
  · go_enter Tryz.func75, Tryz.ntmps75
    go_wp2
    go_ret
    exact ⟨rfl, rfl⟩
  · go_enter Tryz.func75, Tryz.ntmps75
    go_wp2
    go_ret
    exact ⟨rfl, rfl⟩
  · go_enter Tryz.func75, Tryz.ntmps75
    go_wp2
    go_ret
    exact ⟨rfl, rfl⟩
  · go_enter Tryz.func75, Tryz.ntmps75
    go_wp2
    go_ret
    exact ⟨rfl, rfl⟩
  · go_enter Tryz.func75, Tryz.ntmps75
    go_wp2
    go_ret
    exact ⟨rfl, rfl⟩
  · go_enter Tryz.func75, Tryz.ntmps75
    go_wp2
    go_ret
    exact ⟨rfl, rfl⟩
  · go_enter Tryz.func75, Tryz.ntmps75
    go_wp2
    go_ret
    exact ⟨rfl, rfl⟩
  · go_enter Tryz.func75, Tryz.ntmps75
    go_wp2
    go_ret
    exact ⟨rfl, rfl⟩
  · go_enter Tryz.func75, Tryz.ntmps75
    go_wp2
    go_ret
    exact ⟨rfl, rfl⟩
  · go_enter Tryz.func75, Tryz.ntmps75
    go_wp2
    go_ret
    exact ⟨rfl, rfl⟩
  · go_enter Tryz.func75, Tryz.ntmps75
    go_wp2
    go_ret
    exact ⟨rfl, rfl⟩
  · go_enter Tryz.func75, Tryz.ntmps75
    go_wp2
    go_ret
    exact ⟨rfl, rfl⟩
  · go_enter Tryz.func75, Tryz.ntmps75
    go_wp2
    go_ret
    exact ⟨rfl, rfl⟩
  · go_enter Tryz.func75, Tryz.ntmps75
    go_wp2
    go_ret
    exact ⟨rfl, rfl⟩
  · go_enter Tryz.func75, Tryz.ntmps75
    go_wp2
    go_ret
    exact ⟨rfl, rfl⟩
  · go_enter Tryz.func75, Tryz.ntmps75
    go_wp2
    go_ret
    exact ⟨rfl, rfl⟩
  · go_enter Tryz.func75, Tryz.ntmps75
    go_wp2
    go_ret
    exact ⟨rfl, rfl⟩
  · go_enter Tryz.func75, Tryz.ntmps75
    go_wp2
    go_ret
    exact ⟨rfl, rfl⟩
  · go_enter Tryz.func75, Tryz.ntmps75
    go_wp2
    go_ret
    exact ⟨rfl, rfl⟩
  · go_enter Tryz.func75, Tryz.ntmps75
    go_wp2
    go_ret
    exact ⟨rfl, rfl⟩
  · go_enter Tryz.func75, Tryz.ntmps75
    go_wp2
    go_ret
    exact ⟨rfl, rfl⟩
  · go_enter Tryz.func75, Tryz.ntmps75
    go_wp2
    go_ret
    exact ⟨rfl, rfl⟩
  · go_enter Tryz.func75, Tryz.ntmps75
    go_wp2
    go_ret
    exact ⟨rfl, rfl⟩
  · go_enter Tryz.func75, Tryz.ntmps75
    go_wp2
    go_ret
    exact ⟨rfl, rfl⟩
  · go_enter Tryz.func75, Tryz.ntmps75
    go_wp2
    go_ret
    exact ⟨rfl, rfl⟩

/-- the loop of kind -/
def KindR (name : B) (g : Nat) (v : Value) (w wr : World) : Prop := ∃ k : Nat, v = .int .i64 (k : Nat) ∧ 1 ≤ k ∧ k + g = 13 ∧ (∀ j : Nat, 1 ≤ j → j < k → qnameI j ≠ name) ∧ wr = w
theorem kindIn_q (name : B) : (∀ j : Nat, 1 ≤ j → j < 13 → qnameI j ≠ name) → kindIn qnames name = 0 := by
  intro h
  rcases kindIn_mem qnames name with q | q
  · exact q
  · exfalso
    rw [show qnames.map (·.1) = [1, 2, 3, 4, 5, 6, 7, 8, 9, 10, 11, 12] from by decide +kernel] at q
    unfold kindIn at q
    cases hf : qnames.find? (fun p => p.2 == name) with
    | none => rw [hf] at q; simp at q
    | some p =>
      have h1 := List.mem_of_find?_eq_some hf
      have h2 := List.find?_some hf
      have : ∀ p ∈ qnames, ∃ j : Nat, 1 ≤ j ∧ j < 13 ∧ qnameI j = p.2 := by
        have h3 : qnames.all (fun p => (List.range 13).any fun j => decide (1 ≤ j ∧ qnameI (j : Nat) = p.2)) = true := by decide +kernel
        intro p hp
        have := List.all_eq_true.1 h3 p hp
        obtain ⟨j, hj, hd⟩ := List.any_eq_true.1 this
        have hd := of_decide_eq_true hd
        exact ⟨j, hd.1, List.mem_range.1 hj, hd.2⟩
      obtain ⟨j, j1, j2, j3⟩ := this p h1
      exact h j j1 j2 (by rw [j3]; simpa using h2)
theorem qnames_kind : ∀ j : Nat, 1 ≤ j → j < 13 → kindIn qnames (qnameI j) = j := by
  have h3 : (List.range 13).all (fun j => decide (1 ≤ j → kindIn qnames (qnameI (j : Nat)) = (j : Int))) = true := by decide +kernel
  intro j h1 h2
  exact of_decide_eq_true (List.all_eq_true.1 h3 j (List.mem_range.2 h2)) h1

set_option maxRecDepth 100000 in
set_option maxHeartbeats 4000000 in
theorem kind_other (name : B) (hc : kindIn cnames name = 0) (w : World) : Calls Tryz.prog 73 #[.string (bs name)] w fun e w' => e = .returned (.int .i64 (if kindIn qnames name ≠ 0 then 100 + kindIn qnames name else 0)) ∧ w = w' := by
  have hno : ∀ p ∈ cnames, name ≠ p.2 := by
    intro p hp q
    unfold kindIn at hc
    cases hf : cnames.find? (fun p => p.2 == name) with
    | none => rw [List.find?_eq_none] at hf; exact hf p hp (by simp [q])
    | some r =>
      rw [hf] at hc
      have h1 := List.mem_of_find?_eq_some hf
      have h2 : r.1 ∈ cnames.map (·.1) := List.mem_map_of_mem h1
      rw [show cnames.map (·.1) = [1, 2, 3, 4, 5, 6, 7, 8, 9, 10, 11, 13, 14] from by decide +kernel] at h2
      simp only [] at hc
      rw [hc] at h2
      simp at h2
  have e1 : ((bs name).toList == [100, 105, 115, 107]) = false := ba_ne (bs name) [100, 105, 115, 107] fun q => hno (1, [100, 105, 115, 107]) (by decide +kernel) (bs_inj q)
  have e2 : ((bs name).toList == [116, 114, 101, 101]) = false := ba_ne (bs name) [116, 114, 101, 101] fun q => hno (2, [116, 114, 101, 101]) (by decide +kernel) (bs_inj q)
  have e3 : ((bs name).toList == [99, 111, 109, 109, 105, 116]) = false := ba_ne (bs name) [99, 111, 109, 109, 105, 116] fun q => hno (3, [99, 111, 109, 109, 105, 116]) (by decide +kernel) (bs_inj q)
  have e4 : ((bs name).toList == [117, 112, 100, 97, 116, 101]) = false := ba_ne (bs name) [117, 112, 100, 97, 116, 101] fun q => hno (4, [117, 112, 100, 97, 116, 101]) (by decide +kernel) (bs_inj q)
  have e5 : ((bs name).toList == [99, 111, 109, 112, 97, 99, 116]) = false := ba_ne (bs name) [99, 111, 109, 112, 97, 99, 116] fun q => hno (5, [99, 111, 109, 112, 97, 99, 116]) (by decide +kernel) (bs_inj q)
  have e6 : ((bs name).toList == [114, 101, 108, 111, 97, 100]) = false := ba_ne (bs name) [114, 101, 108, 111, 97, 100] fun q => hno (6, [114, 101, 108, 111, 97, 100]) (by decide +kernel) (bs_inj q)
  have e7 : ((bs name).toList == [102, 97, 108, 108]) = false := ba_ne (bs name) [102, 97, 108, 108] fun q => hno (7, [102, 97, 108, 108]) (by decide +kernel) (bs_inj q)
  have e8 : ((bs name).toList == [99, 114, 97, 115, 104]) = false := ba_ne (bs name) [99, 114, 97, 115, 104] fun q => hno (8, [99, 114, 97, 115, 104]) (by decide +kernel) (bs_inj q)
  have e9 : ((bs name).toList == [100, 97, 109, 97, 103, 101]) = false := ba_ne (bs name) [100, 97, 109, 97, 103, 101] fun q => hno (9, [100, 97, 109, 97, 103, 101]) (by decide +kernel) (bs_inj q)
  have e10 : ((bs name).toList == [114, 101, 109, 111, 118, 101]) = false := ba_ne (bs name) [114, 101, 109, 111, 118, 101] fun q => hno (10, [114, 101, 109, 111, 118, 101]) (by decide +kernel) (bs_inj q)
  have e11 : ((bs name).toList == [99, 117, 116]) = false := ba_ne (bs name) [99, 117, 116] fun q => hno (11, [99, 117, 116]) (by decide +kernel) (bs_inj q)
  have e13 : ((bs name).toList == [102, 105, 108, 101, 115]) = false := ba_ne (bs name) [102, 105, 108, 101, 115] fun q => hno (13, [102, 105, 108, 101, 115]) (by decide +kernel) (bs_inj q)
  have e14 : ((bs name).toList == [99, 111, 117, 110, 116, 115]) = false := ba_ne (bs name) [99, 111, 117, 110, 116, 115] fun q => hno (14, [99, 111, 117, 110, 116, 115]) (by decide +kernel) (bs_inj q)
  have hq := fun (k : Int) W => question_any k W
  have EQ : Hid (∀ k : Int, qnameI k ≠ name → ((bs (qnameI k)).toList == (bs name).toList) = false) := fun k h => ba_ne2 _ _ fun q => h (bs_inj q)
  have EY : Hid (∀ k : Int, qnameI k = name → bs (qnameI k) = bs name) := fun k h => by rw [h]
  obtain ⟨R, hR⟩ : ∃ R, R = if kindIn qnames name ≠ 0 then 100 + kindIn qnames name else 0 := ⟨_, rfl⟩
  rw [← hR]
  have HR : Hid (R = if kindIn qnames name ≠ 0 then 100 + kindIn qnames name else 0) := hR
  have B0 : Hid (KindR name 12 (.int .i64 1) w w) := ⟨1, rfl, Nat.le_refl _, rfl, fun j h1 h2 => by omega, rfl⟩
  generalize bs name = x at *
  clear hno hc hR
  go_enter Tryz.func73, Tryz.ntmps73
  go_wp2
  clear e1 e2 e3 e4 e5 e6 e7 e8 e9 e10 e11 e13 e14
  go_loopg [3] 12 (fun g v wr => KindR name g v w wr)
  case atStart => exact B0.out
  case round =>
    obtain ⟨k, rfl, hk1, hkg, hno, rfl⟩ := hrel
    have G : Hid (1 ≤ k ∧ k + gk = 13 ∧ ∀ j : Nat, 1 ≤ j → j < k → qnameI j ≠ name) := ⟨hk1, hkg, hno⟩
    clear hk1 hkg hno B0
    by_cases hlt : k ≤ 12
    · have hd : decide ((k : Int) ≤ 12) = true := by simp; omega
      have hd2 : decide (k ≤ 12) = true := by simp; omega
      have HL : Hid (k ≤ 12) := hlt
      by_cases hn : qnameI k = name
      · have hy := EY.out k hn
        have HV : Hid (R = 100 + (k : Int) ∧ k ≤ 12) := hidD ⟨by
          have h1 := qnames_kind k G.out.1 (by omega)
          rw [hn] at h1
          have := G.out.1
          rw [HR.out, h1, if_pos (by omega)], hlt⟩
        have hq0 := hq k
        rw [hy] at hq0
        have hw : wrap64 (100 + (k : Int)) = 100 + (k : Int) := w64_in _ (by omega)
        clear hq hlt hn hy
        go_wp2_with (go_at_call 72; (with_reducible refine (hq0 _).mono ?_); rintro e w4 ⟨rfl, rfl⟩)
        go_ret
        rw [HV.out.1]
        refine ⟨?_, rfl⟩
        show Ending.returned (.int .i64 (wrap64 (100 + (k : Int)))) = _
        rw [hw]
      · have hy := EQ.out k hn
        have hq0 := hq k
        generalize bs (qnameI k) = y at *
        have HN : Hid (qnameI k ≠ name) := hn
        have hw : wrap64 ((k : Int) + 1) = ((k + 1 : Nat) : Int) := w64_in _ (by omega)
        clear hlt hn
        have HW : Hid (wrap64 ((k : Int) + 1) = ((k + 1 : Nat) : Int)) := hw
        clear hw
        go_wp2_with (go_at_call 72; (with_reducible refine (hq0 _).mono ?_); rintro e w4 ⟨rfl, rfl⟩)
        go_roundg (gk - 1)
        case measure => have := G.out.2.1; have := HL.out; omega
        case rel => exact ⟨k + 1, by simp [HW.out], by omega, by have := G.out.2.1; have := HL.out; omega, fun j h1 h2 => by
          by_cases hj : j = k
          · rw [hj]; exact HN.out
          · exact G.out.2.2 j h1 (by omega), rfl⟩
    · have hd : decide ((k : Int) ≤ 12) = false := by simp; omega
      have hd2 : decide (k ≤ 12) = false := by simp; omega
      have HV : Hid (R = 0) := hidD (by
        have h := kindIn_q name fun j h1 h2 => G.out.2.2 j h1 (by omega)
        rw [HR.out, h]
        rfl)
      clear hlt hq
      go_wp2
      go_ret
      rw [HV.out]
      exact ⟨rfl, rfl⟩

set_option maxRecDepth 100000 in
set_option maxHeartbeats 4000000 in
theorem kind_any (name : B) (w : World) : Calls Tryz.prog 73 #[.string (bs name)] w fun e w' => e = .returned (.int .i64 (rkind name)) ∧ w = w' := by
  by_cases hc : kindIn cnames name = 0
  · have := kind_other name hc w
    unfold rkind
    rw [if_neg (by simpa using hc)]
    exact this
  · have hm : ∃ p ∈ cnames, p.2 = name := by
      unfold kindIn at hc
      cases hf : cnames.find? (fun p => p.2 == name) with
      | none => rw [hf] at hc; exact absurd rfl hc
      | some p => exact ⟨p, List.mem_of_find?_eq_some hf, by simpa using List.find?_some hf⟩
    clear hc
    obtain ⟨p, hp, rfl⟩ := hm
    unfold cnames at hp
    simp only [List.mem_cons, List.not_mem_nil, or_false] at hp
    rcases hp with rfl | rfl | rfl | rfl | rfl | rfl | rfl | rfl | rfl | rfl | rfl | rfl | rfl
    · go_enter Tryz.func73, Tryz.ntmps73
      go_wp2
      go_ret
      exact ⟨rfl, rfl⟩
    · go_enter Tryz.func73, Tryz.ntmps73
      go_wp2
      go_ret
      exact ⟨rfl, rfl⟩
    · go_enter Tryz.func73, Tryz.ntmps73
      go_wp2
      go_ret
      exact ⟨rfl, rfl⟩
    · go_enter Tryz.func73, Tryz.ntmps73
      go_wp2
      go_ret
      exact ⟨rfl, rfl⟩
    · go_enter Tryz.func73, Tryz.ntmps73
      go_wp2
      go_ret
      exact ⟨rfl, rfl⟩
    · go_enter Tryz.func73, Tryz.ntmps73
      go_wp2
      go_ret
      exact ⟨rfl, rfl⟩
    · go_enter Tryz.func73, Tryz.ntmps73
      go_wp2
      go_ret
      exact ⟨rfl, rfl⟩
    · go_enter Tryz.func73, Tryz.ntmps73
      go_wp2
      go_ret
      exact ⟨rfl, rfl⟩
    · go_enter Tryz.func73, Tryz.ntmps73
      go_wp2
      go_ret
      exact ⟨rfl, rfl⟩
    · go_enter Tryz.func73, Tryz.ntmps73
      go_wp2
      go_ret
      exact ⟨rfl, rfl⟩
    · go_enter Tryz.func73, Tryz.ntmps73
      go_wp2
      go_ret
      exact ⟨rfl, rfl⟩
    · go_enter Tryz.func73, Tryz.ntmps73
      go_wp2
      go_ret
      exact ⟨rfl, rfl⟩
    · go_enter Tryz.func73, Tryz.ntmps73
      go_wp2
      go_ret
      exact ⟨rfl, rfl⟩
end Go.Proofs.YteblabpplaaddaaGreatDoor
