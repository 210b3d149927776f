/- The document's reading: a number at the front: the walk of number (printed by gen_dn.py). -/
import Derived.Test.YteblabpplaaddaaGreatDoorDa
import Derived.Deep.LoopGhost
set_option linter.unusedVariables false
set_option linter.unusedSimpArgs false
namespace Go.Proofs.YteblabpplaaddaaGreatDoor
open Go.RowKit Go.Mine Go.Mine.Sc

/-- the document's number, as the program tells it: the number, and how many bytes it has -/
def numV (t : B) : Int × Nat := match rNum t with | none => (0, 0) | some (n, r) => (n, t.length - r.length)

/-- what the loop of number keeps: k bytes have been gone by -/
def NumR (s : B) (f : Nat) (g : Nat) (vn vi : Value) (w wr : World) : Prop :=
  ∃ (k : Nat) (m : Int), vi = .int .i64 (k : Nat) ∧ vn = .int .i64 m ∧ s.length - k = g ∧ f ≤ k ∧ k ≤ s.length ∧ rdig 0 (s.drop f) = rdig m (s.drop k) ∧ -9223372036854775808 ≤ m ∧ m ≤ 0 ∧ wr = w

theorem rdig_stop {s : B} {k : Nat} {m : Int} (h : k = s.length ∨ ∃ c, s[k]? = some c ∧ ¬ isDig c) : rdig m (s.drop k) = some (m, s.drop k) := by
  rcases h with rfl | ⟨c, hc, hn⟩
  · rw [List.drop_length]; rfl
  · have hlt := (List.getElem?_eq_some_iff.1 hc).1
    have : s.drop k = c :: s.drop (k + 1) := by
      rw [List.drop_eq_getElem_cons hlt]
      rw [List.getElem?_eq_getElem hlt] at hc
      injection hc with hc
      rw [hc]
    rw [this, rdig, if_neg hn]
theorem rdig_step {s : B} {k : Nat} {m : Int} {c : UInt8} (hc : s[k]? = some c) (h : isDig c) : rdig m (s.drop k) = if m < Int.tdiv (-9223372036854775808 + ((c.toNat - 48 : Nat) : Int)) 10 then none else rdig (10 * m - ((c.toNat - 48 : Nat) : Int)) (s.drop (k + 1)) := by
  have hlt := (List.getElem?_eq_some_iff.1 hc).1
  have : s.drop k = c :: s.drop (k + 1) := by
    rw [List.drop_eq_getElem_cons hlt]
    rw [List.getElem?_eq_getElem hlt] at hc
    injection hc with hc
    rw [hc]
  rw [this, rdig, if_pos h]
theorem rMag_at {s : B} {f k : Nat} {m : Int} (hf : f ≤ k) (hk : k ≤ s.length) (h : rdig 0 (s.drop f) = some (m, s.drop k)) :
    rMag (s.drop f) = if k = f ∨ (s[f]? = some 48 ∧ f + 1 < k) then none else some (m, s.drop k) := by
  unfold rMag
  rw [h]
  simp only [List.length_drop, List.head?_drop]
  have e1 : (s.length - k = s.length - f) = (k = f) := propext (by omega)
  have e2 : (s.length - k + 1 < s.length - f) = (f + 1 < k) := propext (by omega)
  simp only [e1, e2]
theorem numV_plus {s : B} (h : s.head? ≠ some 45) : numV s = match rMag s with | none => (0, 0) | some (n, r) => if n = -9223372036854775808 then (0, 0) else (-n, s.length - r.length) := by
  unfold numV rNum
  rw [if_neg h]
  cases rMag s with
  | none => rfl
  | some q =>
    obtain ⟨n, r⟩ := q
    by_cases h2 : n = -9223372036854775808
    · simp [h2]
    · simp [h2]
theorem numV_minus {s : B} (h : s.head? = some 45) : numV s = match rMag (s.drop 1) with | none => (0, 0) | some (n, r) => if n = 0 then (0, 0) else (n, s.length - r.length) := by
  unfold numV rNum
  rw [if_pos h, List.drop_one]
  cases rMag s.tail with
  | none => rfl
  | some q =>
    obtain ⟨n, r⟩ := q
    by_cases h2 : n = 0
    · simp [h2]
    · simp [h2]
theorem hidD {p : Prop} (h : p) : Hid p := h
theorem dig_of_toNat {c : UInt8} {v : Nat} (h : c.toNat = v) (h2 : 48 ≤ v ∧ v ≤ 57) : isDig c := by unfold isDig; omega
theorem w64_in (n : Int) (h : -9223372036854775808 ≤ n ∧ n ≤ 9223372036854775807) : wrap64 n = n := by simp [wrap64]; omega

set_option maxRecDepth 100000 in
set_option maxHeartbeats 8000000 in
theorem number_nil (s : B) (h0 : s = []) (hh : s.head? ≠ some 45) (hs : s.length ≤ 1000000) (w : World) : Calls Tryz.prog 91 #[.string (bs s)] w fun e w' => e = .returned (.tuple #[.int .i64 (numV s).1, .int .i64 ((numV s).2 : Nat)]) ∧ w' = w := by
  have HSZ : Hid ((bs s).size = s.length) := bs_size s
  have HS : Hid (s.length ≤ 1000000) := hs
  have HH : Hid (s.head? ≠ some 45) := hh
  have IX : Hid (∀ (k : Nat) (c : UInt8), s[k]? = some c → ∀ W, (Instr.index 9 (.string (bs s)) (.int .i64 (k : Nat))).run Tryz.prog W = .ok (.int .u8 (c.toNat : Nat)) W) := fun k c h W => ix_str s k c h W
  have B0 : Hid (NumR s 0 (s.length - 0) (.int .i64 0) (.int .i64 0) w w) := ⟨0, 0, rfl, rfl, rfl, Nat.le_refl _, Nat.zero_le _, rfl, by omega, by omega, rfl⟩
  obtain ⟨R, hR⟩ : ∃ R, R = numV s := ⟨_, rfl⟩
  rw [← hR]
  have HR : Hid (R = numV s) := hR
  have hd0 : decide ((0 : Int) < ((bs s).size : Int)) = false := by rw [h0]; rfl
  have hd0n : decide (0 < (bs s).size) = false := by rw [h0]; rfl
  generalize bs s = x at *
  clear hs hh hR h0
  go_enter Tryz.func91, Tryz.ntmps91
  go_wp2
  go_loopg [4, 5] (s.length - 0) (fun g vn vi wr => NumR s 0 g vn vi w wr)
  case atStart => exact B0.out
  case round =>
    obtain ⟨k, m, rfl, rfl, hg, hfk, hks, hrd, hm1, hm2, rfl⟩ := hrel
    have G : Hid (0 ≤ k ∧ k ≤ s.length ∧ s.length - k = gk ∧ -9223372036854775808 ≤ m ∧ m ≤ 0 ∧ s.length ≤ 1000000) := ⟨hfk, hks, hg, hm1, hm2, HS.out⟩
    have RD : Hid (rdig 0 (s.drop 0) = rdig m (s.drop k)) := hrd
    clear hg hfk hks hrd hm1 hm2 B0
    have hf0 : True := trivial
    by_cases hlt : k < s.length
    · obtain ⟨c, hc⟩ : ∃ c, s[k]? = some c := ⟨_, List.getElem?_eq_getElem hlt⟩
      have hix := IX.out k c hc
      have hd1 : decide ((k : Int) < (x.size : Int)) = true := by rw [HSZ.out]; simp; omega
      have hd2 : decide (k < x.size) = true := by rw [HSZ.out]; simp; omega
      by_cases hlow : 48 ≤ c.toNat
      · by_cases hhigh : c.toNat ≤ 57
        · have hdig : isDig c := ⟨hlow, hhigh⟩
          have hst := rdig_step (m := m) hc hdig
          have ST : Hid (rdig m (s.drop k) = if m < Int.tdiv (-9223372036854775808 + ((c.toNat - 48 : Nat) : Int)) 10 then none else rdig (10 * m - ((c.toNat - 48 : Nat) : Int)) (s.drop (k + 1))) := hst
          have hw3 : wrap64 ((k : Int) + 1) = ((k + 1 : Nat) : Int) := by have := G.out; simp [wrap64]; omega
          have TL := tdiv_low (c.toNat - 48) m (by omega)
          have HTL : Hid (m < Int.tdiv (-9223372036854775808 + ((c.toNat - 48 : Nat) : Int)) 10 ↔ 10 * m - ((c.toNat - 48 : Nat) : Int) < -9223372036854775808) := TL
          clear hst TL hc hdig
          have hcases : c.toNat = 48 ∨ c.toNat = 49 ∨ c.toNat = 50 ∨ c.toNat = 51 ∨ c.toNat = 52 ∨ c.toNat = 53 ∨ c.toNat = 54 ∨ c.toNat = 55 ∨ c.toNat = 56 ∨ c.toNat = 57 := by omega
          generalize c.toNat = v at *
          clear hlow hhigh
          rcases hcases with rfl | rfl | rfl | rfl | rfl | rfl | rfl | rfl | rfl | rfl
          · by_cases hsm : m < -922337203685477580
            · have e5 : decide (m < -922337203685477580) = true := by simpa using hsm
              have HN : Hid (R = (0, 0)) := hidD (by
                have q : rdig 0 (s.drop 0) = none := by rw [RD.out, ST.out, if_pos (show m < Int.tdiv (-9223372036854775808 + ((48 - 48 : Nat) : Int)) 10 from hsm)]
                have q2 : rMag (s.drop 0) = none := by unfold rMag; rw [q]
                rw [List.drop_zero] at q2
                rw [HR.out, numV_plus HH.out, q2])
              clear hsm hlt
              go_wp2
              go_ret2
              rw [HN.out]
              exact ⟨rfl, rfl⟩
            · have e5 : decide (m < -922337203685477580) = false := by simpa using hsm
              have hnl : ¬ (10 * m - 0 < -9223372036854775808) := fun q => hsm (HTL.out.2 q)
              have e6 : wrap64 (10 * m) = 10 * m := w64_in _ (by have := G.out; omega)
              have e7 : wrap64 (10 * m - 0) = 10 * m - 0 := w64_in _ (by have := G.out; omega)
              have GO : Hid (rdig 0 (s.drop 0) = rdig (10 * m - 0) (s.drop (k + 1)) ∧ -9223372036854775808 ≤ 10 * m - 0 ∧ k < s.length) := ⟨by rw [RD.out, ST.out, if_neg (show ¬ (m < Int.tdiv (-9223372036854775808 + ((48 - 48 : Nat) : Int)) 10) from hsm)]; rfl, by omega, hlt⟩
              clear hsm hnl hlt
              go_wp2
              go_roundg (s.length - (k + 1))
              case measure => have := G.out; have := GO.out.2.2; omega
              case rel => exact ⟨k + 1, 10 * m - 0, by simp [hw3], by simp [e6, e7], rfl, by have := G.out; omega, GO.out.2.2, GO.out.1, GO.out.2.1, by have := G.out; omega, rfl⟩
          · by_cases hsm : m < -922337203685477580
            · have e5 : decide (m < -922337203685477580) = true := by simpa using hsm
              have HN : Hid (R = (0, 0)) := hidD (by
                have q : rdig 0 (s.drop 0) = none := by rw [RD.out, ST.out, if_pos (show m < Int.tdiv (-9223372036854775808 + ((49 - 48 : Nat) : Int)) 10 from hsm)]
                have q2 : rMag (s.drop 0) = none := by unfold rMag; rw [q]
                rw [List.drop_zero] at q2
                rw [HR.out, numV_plus HH.out, q2])
              clear hsm hlt
              go_wp2
              go_ret2
              rw [HN.out]
              exact ⟨rfl, rfl⟩
            · have e5 : decide (m < -922337203685477580) = false := by simpa using hsm
              have hnl : ¬ (10 * m - 1 < -9223372036854775808) := fun q => hsm (HTL.out.2 q)
              have e6 : wrap64 (10 * m) = 10 * m := w64_in _ (by have := G.out; omega)
              have e7 : wrap64 (10 * m - 1) = 10 * m - 1 := w64_in _ (by have := G.out; omega)
              have GO : Hid (rdig 0 (s.drop 0) = rdig (10 * m - 1) (s.drop (k + 1)) ∧ -9223372036854775808 ≤ 10 * m - 1 ∧ k < s.length) := ⟨by rw [RD.out, ST.out, if_neg (show ¬ (m < Int.tdiv (-9223372036854775808 + ((49 - 48 : Nat) : Int)) 10) from hsm)]; rfl, by omega, hlt⟩
              clear hsm hnl hlt
              go_wp2
              go_roundg (s.length - (k + 1))
              case measure => have := G.out; have := GO.out.2.2; omega
              case rel => exact ⟨k + 1, 10 * m - 1, by simp [hw3], by simp [e6, e7], rfl, by have := G.out; omega, GO.out.2.2, GO.out.1, GO.out.2.1, by have := G.out; omega, rfl⟩
          · by_cases hsm : m < -922337203685477580
            · have e5 : decide (m < -922337203685477580) = true := by simpa using hsm
              have HN : Hid (R = (0, 0)) := hidD (by
                have q : rdig 0 (s.drop 0) = none := by rw [RD.out, ST.out, if_pos (show m < Int.tdiv (-9223372036854775808 + ((50 - 48 : Nat) : Int)) 10 from hsm)]
                have q2 : rMag (s.drop 0) = none := by unfold rMag; rw [q]
                rw [List.drop_zero] at q2
                rw [HR.out, numV_plus HH.out, q2])
              clear hsm hlt
              go_wp2
              go_ret2
              rw [HN.out]
              exact ⟨rfl, rfl⟩
            · have e5 : decide (m < -922337203685477580) = false := by simpa using hsm
              have hnl : ¬ (10 * m - 2 < -9223372036854775808) := fun q => hsm (HTL.out.2 q)
              have e6 : wrap64 (10 * m) = 10 * m := w64_in _ (by have := G.out; omega)
              have e7 : wrap64 (10 * m - 2) = 10 * m - 2 := w64_in _ (by have := G.out; omega)
              have GO : Hid (rdig 0 (s.drop 0) = rdig (10 * m - 2) (s.drop (k + 1)) ∧ -9223372036854775808 ≤ 10 * m - 2 ∧ k < s.length) := ⟨by rw [RD.out, ST.out, if_neg (show ¬ (m < Int.tdiv (-9223372036854775808 + ((50 - 48 : Nat) : Int)) 10) from hsm)]; rfl, by omega, hlt⟩
              clear hsm hnl hlt
              go_wp2
              go_roundg (s.length - (k + 1))
              case measure => have := G.out; have := GO.out.2.2; omega
              case rel => exact ⟨k + 1, 10 * m - 2, by simp [hw3], by simp [e6, e7], rfl, by have := G.out; omega, GO.out.2.2, GO.out.1, GO.out.2.1, by have := G.out; omega, rfl⟩
          · by_cases hsm : m < -922337203685477580
            · have e5 : decide (m < -922337203685477580) = true := by simpa using hsm
              have HN : Hid (R = (0, 0)) := hidD (by
                have q : rdig 0 (s.drop 0) = none := by rw [RD.out, ST.out, if_pos (show m < Int.tdiv (-9223372036854775808 + ((51 - 48 : Nat) : Int)) 10 from hsm)]
                have q2 : rMag (s.drop 0) = none := by unfold rMag; rw [q]
                rw [List.drop_zero] at q2
                rw [HR.out, numV_plus HH.out, q2])
              clear hsm hlt
              go_wp2
              go_ret2
              rw [HN.out]
              exact ⟨rfl, rfl⟩
            · have e5 : decide (m < -922337203685477580) = false := by simpa using hsm
              have hnl : ¬ (10 * m - 3 < -9223372036854775808) := fun q => hsm (HTL.out.2 q)
              have e6 : wrap64 (10 * m) = 10 * m := w64_in _ (by have := G.out; omega)
              have e7 : wrap64 (10 * m - 3) = 10 * m - 3 := w64_in _ (by have := G.out; omega)
              have GO : Hid (rdig 0 (s.drop 0) = rdig (10 * m - 3) (s.drop (k + 1)) ∧ -9223372036854775808 ≤ 10 * m - 3 ∧ k < s.length) := ⟨by rw [RD.out, ST.out, if_neg (show ¬ (m < Int.tdiv (-9223372036854775808 + ((51 - 48 : Nat) : Int)) 10) from hsm)]; rfl, by omega, hlt⟩
              clear hsm hnl hlt
              go_wp2
              go_roundg (s.length - (k + 1))
              case measure => have := G.out; have := GO.out.2.2; omega
              case rel => exact ⟨k + 1, 10 * m - 3, by simp [hw3], by simp [e6, e7], rfl, by have := G.out; omega, GO.out.2.2, GO.out.1, GO.out.2.1, by have := G.out; omega, rfl⟩
          · by_cases hsm : m < -922337203685477580
            · have e5 : decide (m < -922337203685477580) = true := by simpa using hsm
              have HN : Hid (R = (0, 0)) := hidD (by
                have q : rdig 0 (s.drop 0) = none := by rw [RD.out, ST.out, if_pos (show m < Int.tdiv (-9223372036854775808 + ((52 - 48 : Nat) : Int)) 10 from hsm)]
                have q2 : rMag (s.drop 0) = none := by unfold rMag; rw [q]
                rw [List.drop_zero] at q2
                rw [HR.out, numV_plus HH.out, q2])
              clear hsm hlt
              go_wp2
              go_ret2
              rw [HN.out]
              exact ⟨rfl, rfl⟩
            · have e5 : decide (m < -922337203685477580) = false := by simpa using hsm
              have hnl : ¬ (10 * m - 4 < -9223372036854775808) := fun q => hsm (HTL.out.2 q)
              have e6 : wrap64 (10 * m) = 10 * m := w64_in _ (by have := G.out; omega)
              have e7 : wrap64 (10 * m - 4) = 10 * m - 4 := w64_in _ (by have := G.out; omega)
              have GO : Hid (rdig 0 (s.drop 0) = rdig (10 * m - 4) (s.drop (k + 1)) ∧ -9223372036854775808 ≤ 10 * m - 4 ∧ k < s.length) := ⟨by rw [RD.out, ST.out, if_neg (show ¬ (m < Int.tdiv (-9223372036854775808 + ((52 - 48 : Nat) : Int)) 10) from hsm)]; rfl, by omega, hlt⟩
              clear hsm hnl hlt
              go_wp2
              go_roundg (s.length - (k + 1))
              case measure => have := G.out; have := GO.out.2.2; omega
              case rel => exact ⟨k + 1, 10 * m - 4, by simp [hw3], by simp [e6, e7], rfl, by have := G.out; omega, GO.out.2.2, GO.out.1, GO.out.2.1, by have := G.out; omega, rfl⟩
          · by_cases hsm : m < -922337203685477580
            · have e5 : decide (m < -922337203685477580) = true := by simpa using hsm
              have HN : Hid (R = (0, 0)) := hidD (by
                have q : rdig 0 (s.drop 0) = none := by rw [RD.out, ST.out, if_pos (show m < Int.tdiv (-9223372036854775808 + ((53 - 48 : Nat) : Int)) 10 from hsm)]
                have q2 : rMag (s.drop 0) = none := by unfold rMag; rw [q]
                rw [List.drop_zero] at q2
                rw [HR.out, numV_plus HH.out, q2])
              clear hsm hlt
              go_wp2
              go_ret2
              rw [HN.out]
              exact ⟨rfl, rfl⟩
            · have e5 : decide (m < -922337203685477580) = false := by simpa using hsm
              have hnl : ¬ (10 * m - 5 < -9223372036854775808) := fun q => hsm (HTL.out.2 q)
              have e6 : wrap64 (10 * m) = 10 * m := w64_in _ (by have := G.out; omega)
              have e7 : wrap64 (10 * m - 5) = 10 * m - 5 := w64_in _ (by have := G.out; omega)
              have GO : Hid (rdig 0 (s.drop 0) = rdig (10 * m - 5) (s.drop (k + 1)) ∧ -9223372036854775808 ≤ 10 * m - 5 ∧ k < s.length) := ⟨by rw [RD.out, ST.out, if_neg (show ¬ (m < Int.tdiv (-9223372036854775808 + ((53 - 48 : Nat) : Int)) 10) from hsm)]; rfl, by omega, hlt⟩
              clear hsm hnl hlt
              go_wp2
              go_roundg (s.length - (k + 1))
              case measure => have := G.out; have := GO.out.2.2; omega
              case rel => exact ⟨k + 1, 10 * m - 5, by simp [hw3], by simp [e6, e7], rfl, by have := G.out; omega, GO.out.2.2, GO.out.1, GO.out.2.1, by have := G.out; omega, rfl⟩
          · by_cases hsm : m < -922337203685477580
            · have e5 : decide (m < -922337203685477580) = true := by simpa using hsm
              have HN : Hid (R = (0, 0)) := hidD (by
                have q : rdig 0 (s.drop 0) = none := by rw [RD.out, ST.out, if_pos (show m < Int.tdiv (-9223372036854775808 + ((54 - 48 : Nat) : Int)) 10 from hsm)]
                have q2 : rMag (s.drop 0) = none := by unfold rMag; rw [q]
                rw [List.drop_zero] at q2
                rw [HR.out, numV_plus HH.out, q2])
              clear hsm hlt
              go_wp2
              go_ret2
              rw [HN.out]
              exact ⟨rfl, rfl⟩
            · have e5 : decide (m < -922337203685477580) = false := by simpa using hsm
              have hnl : ¬ (10 * m - 6 < -9223372036854775808) := fun q => hsm (HTL.out.2 q)
              have e6 : wrap64 (10 * m) = 10 * m := w64_in _ (by have := G.out; omega)
              have e7 : wrap64 (10 * m - 6) = 10 * m - 6 := w64_in _ (by have := G.out; omega)
              have GO : Hid (rdig 0 (s.drop 0) = rdig (10 * m - 6) (s.drop (k + 1)) ∧ -9223372036854775808 ≤ 10 * m - 6 ∧ k < s.length) := ⟨by rw [RD.out, ST.out, if_neg (show ¬ (m < Int.tdiv (-9223372036854775808 + ((54 - 48 : Nat) : Int)) 10) from hsm)]; rfl, by omega, hlt⟩
              clear hsm hnl hlt
              go_wp2
              go_roundg (s.length - (k + 1))
              case measure => have := G.out; have := GO.out.2.2; omega
              case rel => exact ⟨k + 1, 10 * m - 6, by simp [hw3], by simp [e6, e7], rfl, by have := G.out; omega, GO.out.2.2, GO.out.1, GO.out.2.1, by have := G.out; omega, rfl⟩
          · by_cases hsm : m < -922337203685477580
            · have e5 : decide (m < -922337203685477580) = true := by simpa using hsm
              have HN : Hid (R = (0, 0)) := hidD (by
                have q : rdig 0 (s.drop 0) = none := by rw [RD.out, ST.out, if_pos (show m < Int.tdiv (-9223372036854775808 + ((55 - 48 : Nat) : Int)) 10 from hsm)]
                have q2 : rMag (s.drop 0) = none := by unfold rMag; rw [q]
                rw [List.drop_zero] at q2
                rw [HR.out, numV_plus HH.out, q2])
              clear hsm hlt
              go_wp2
              go_ret2
              rw [HN.out]
              exact ⟨rfl, rfl⟩
            · have e5 : decide (m < -922337203685477580) = false := by simpa using hsm
              have hnl : ¬ (10 * m - 7 < -9223372036854775808) := fun q => hsm (HTL.out.2 q)
              have e6 : wrap64 (10 * m) = 10 * m := w64_in _ (by have := G.out; omega)
              have e7 : wrap64 (10 * m - 7) = 10 * m - 7 := w64_in _ (by have := G.out; omega)
              have GO : Hid (rdig 0 (s.drop 0) = rdig (10 * m - 7) (s.drop (k + 1)) ∧ -9223372036854775808 ≤ 10 * m - 7 ∧ k < s.length) := ⟨by rw [RD.out, ST.out, if_neg (show ¬ (m < Int.tdiv (-9223372036854775808 + ((55 - 48 : Nat) : Int)) 10) from hsm)]; rfl, by omega, hlt⟩
              clear hsm hnl hlt
              go_wp2
              go_roundg (s.length - (k + 1))
              case measure => have := G.out; have := GO.out.2.2; omega
              case rel => exact ⟨k + 1, 10 * m - 7, by simp [hw3], by simp [e6, e7], rfl, by have := G.out; omega, GO.out.2.2, GO.out.1, GO.out.2.1, by have := G.out; omega, rfl⟩
          · by_cases hsm : m < -922337203685477580
            · have e5 : decide (m < -922337203685477580) = true := by simpa using hsm
              have HN : Hid (R = (0, 0)) := hidD (by
                have q : rdig 0 (s.drop 0) = none := by rw [RD.out, ST.out, if_pos (show m < Int.tdiv (-9223372036854775808 + ((56 - 48 : Nat) : Int)) 10 from hsm)]
                have q2 : rMag (s.drop 0) = none := by unfold rMag; rw [q]
                rw [List.drop_zero] at q2
                rw [HR.out, numV_plus HH.out, q2])
              clear hsm hlt
              go_wp2
              go_ret2
              rw [HN.out]
              exact ⟨rfl, rfl⟩
            · have e5 : decide (m < -922337203685477580) = false := by simpa using hsm
              have hnl : ¬ (10 * m - 8 < -9223372036854775808) := fun q => hsm (HTL.out.2 q)
              have e6 : wrap64 (10 * m) = 10 * m := w64_in _ (by have := G.out; omega)
              have e7 : wrap64 (10 * m - 8) = 10 * m - 8 := w64_in _ (by have := G.out; omega)
              have GO : Hid (rdig 0 (s.drop 0) = rdig (10 * m - 8) (s.drop (k + 1)) ∧ -9223372036854775808 ≤ 10 * m - 8 ∧ k < s.length) := ⟨by rw [RD.out, ST.out, if_neg (show ¬ (m < Int.tdiv (-9223372036854775808 + ((56 - 48 : Nat) : Int)) 10) from hsm)]; rfl, by omega, hlt⟩
              clear hsm hnl hlt
              go_wp2
              go_roundg (s.length - (k + 1))
              case measure => have := G.out; have := GO.out.2.2; omega
              case rel => exact ⟨k + 1, 10 * m - 8, by simp [hw3], by simp [e6, e7], rfl, by have := G.out; omega, GO.out.2.2, GO.out.1, GO.out.2.1, by have := G.out; omega, rfl⟩
          · by_cases hsm : m < -922337203685477579
            · have e5 : decide (m < -922337203685477579) = true := by simpa using hsm
              have HN : Hid (R = (0, 0)) := hidD (by
                have q : rdig 0 (s.drop 0) = none := by rw [RD.out, ST.out, if_pos (show m < Int.tdiv (-9223372036854775808 + ((57 - 48 : Nat) : Int)) 10 from hsm)]
                have q2 : rMag (s.drop 0) = none := by unfold rMag; rw [q]
                rw [List.drop_zero] at q2
                rw [HR.out, numV_plus HH.out, q2])
              clear hsm hlt
              go_wp2
              go_ret2
              rw [HN.out]
              exact ⟨rfl, rfl⟩
            · have e5 : decide (m < -922337203685477579) = false := by simpa using hsm
              have hnl : ¬ (10 * m - 9 < -9223372036854775808) := fun q => hsm (HTL.out.2 q)
              have e6 : wrap64 (10 * m) = 10 * m := w64_in _ (by have := G.out; omega)
              have e7 : wrap64 (10 * m - 9) = 10 * m - 9 := w64_in _ (by have := G.out; omega)
              have GO : Hid (rdig 0 (s.drop 0) = rdig (10 * m - 9) (s.drop (k + 1)) ∧ -9223372036854775808 ≤ 10 * m - 9 ∧ k < s.length) := ⟨by rw [RD.out, ST.out, if_neg (show ¬ (m < Int.tdiv (-9223372036854775808 + ((57 - 48 : Nat) : Int)) 10) from hsm)]; rfl, by omega, hlt⟩
              clear hsm hnl hlt
              go_wp2
              go_roundg (s.length - (k + 1))
              case measure => have := G.out; have := GO.out.2.2; omega
              case rel => exact ⟨k + 1, 10 * m - 9, by simp [hw3], by simp [e6, e7], rfl, by have := G.out; omega, GO.out.2.2, GO.out.1, GO.out.2.1, by have := G.out; omega, rfl⟩
        · have e1' : decide ((48 : Int) ≤ (c.toNat : Int)) = true := by simp; omega
          have e2' : decide ((c.toNat : Int) ≤ 57) = false := by simp; omega
          have RS : Hid (rdig 0 (s.drop 0) = some (m, s.drop k)) := RD.out.trans (rdig_stop (.inr ⟨c, hc, fun q => hhigh q.2⟩))
          clear hc hlow hhigh hlt
          by_cases hkf : k = 0
          · have hk0 : ((k : Int) == 0) = true := by simp; omega
            have HV : Hid (R = (0, 0)) := hidD (by
              have q := rMag_at G.out.1 G.out.2.1 RS.out
              rw [if_pos (.inl hkf)] at q
              rw [List.drop_zero] at q
              rw [HR.out, numV_plus HH.out, q]
            )
            clear hf0 hkf
            go_wp2
            go_ret2
            rw [HV.out]
            exact ⟨rfl, rfl⟩
          obtain ⟨c0, hc0⟩ : ∃ c0, s[0]? = some c0 := ⟨_, List.getElem?_eq_getElem (by have := G.out; omega)⟩
          have hk0 : ((k : Int) == 0) = false := by simp; omega
          have hixf : ∀ W, (Instr.index 9 (.string x) (.int .i64 0)).run Tryz.prog W = .ok (.int .u8 (c0.toNat : Nat)) W := IX.out 0 c0 hc0
          by_cases hz : c0 = 48
          · subst hz
            change ∀ W, (Instr.index 9 (.string x) (.int .i64 0)).run Tryz.prog W = .ok (.int .u8 48) W at hixf
            by_cases h2 : 1 < k
            · have e2 : decide ((1 : Int) < (k : Int)) = true := by simp; omega
              have HV : Hid (R = (0, 0)) := hidD (by
                have q := rMag_at G.out.1 G.out.2.1 RS.out
                rw [if_pos (.inr ⟨hc0, h2⟩)] at q
                rw [List.drop_zero] at q
                rw [HR.out, numV_plus HH.out, q]
              )
              clear hkf hc0 h2 hf0
              go_wp2
              go_ret2
              rw [HV.out]
              exact ⟨rfl, rfl⟩
            · have e2 : decide ((1 : Int) < (k : Int)) = false := by simp; omega
              by_cases hm0 : m = -9223372036854775808
              · have e3 : (m == -9223372036854775808) = true := by simpa using hm0
                have HV : Hid (R = (0, 0)) := hidD (by
                  have q := rMag_at G.out.1 G.out.2.1 RS.out
                  rw [if_neg (by rintro (q | q); exact hkf q; exact h2 q.2)] at q
                  rw [List.drop_zero] at q
                  rw [HR.out, numV_plus HH.out, q]
                  simp only []
                  rw [if_pos hm0])
                clear hkf hc0 h2 hm0 hf0
                go_wp2
                go_ret2
                rw [HV.out]
                exact ⟨rfl, rfl⟩
              have e3 : (m == -9223372036854775808) = false := by simpa using hm0
              have e4 : wrap64 (-m) = -m := w64_in _ (by have := G.out; omega)
              have HV : Hid (R = (-m, k)) := hidD (by
                have q := rMag_at G.out.1 G.out.2.1 RS.out
                rw [if_neg (by rintro (q | q); exact hkf q; exact h2 q.2)] at q
                rw [List.drop_zero] at q
                rw [HR.out, numV_plus HH.out, q]
                simp only []
                rw [if_neg hm0, List.length_drop]
                congr 1
                have := G.out
                omega)
              clear hkf hc0 h2 hm0 hf0
              go_wp2
              go_ret2
              rw [HV.out]
              refine ⟨?_, rfl⟩
              show Ending.returned (.tuple #[.int .i64 (wrap64 (-m)), .int .i64 (k : Nat)]) = _
              rw [e4]
          have e1 : ((c0.toNat : Int) == 48) = false := by
            have : c0.toNat ≠ 48 := fun q => hz (UInt8.toNat_inj.1 q)
            simp; omega
          by_cases hm0 : m = -9223372036854775808
          · have e3 : (m == -9223372036854775808) = true := by simpa using hm0
            have HV : Hid (R = (0, 0)) := hidD (by
              have q := rMag_at G.out.1 G.out.2.1 RS.out
              rw [if_neg (by rintro (q | q); exact hkf q; exact hz (by rw [hc0] at q; simpa using q.1))] at q
              rw [List.drop_zero] at q
              rw [HR.out, numV_plus HH.out, q]
              simp only []
              rw [if_pos hm0])
            clear hkf hc0 hz hm0 hf0
            go_wp2
            go_ret2
            rw [HV.out]
            exact ⟨rfl, rfl⟩
          have e3 : (m == -9223372036854775808) = false := by simpa using hm0
          have e4 : wrap64 (-m) = -m := w64_in _ (by have := G.out; omega)
          have HV : Hid (R = (-m, k)) := hidD (by
            have q := rMag_at G.out.1 G.out.2.1 RS.out
            rw [if_neg (by rintro (q | q); exact hkf q; exact hz (by rw [hc0] at q; simpa using q.1))] at q
            rw [List.drop_zero] at q
            rw [HR.out, numV_plus HH.out, q]
            simp only []
            rw [if_neg hm0, List.length_drop]
            congr 1
            have := G.out
            omega)
          clear hkf hc0 hz hm0 hf0
          go_wp2
          go_ret2
          rw [HV.out]
          refine ⟨?_, rfl⟩
          show Ending.returned (.tuple #[.int .i64 (wrap64 (-m)), .int .i64 (k : Nat)]) = _
          rw [e4]
      · have e1' : decide ((48 : Int) ≤ (c.toNat : Int)) = false := by simp; omega
        have RS : Hid (rdig 0 (s.drop 0) = some (m, s.drop k)) := RD.out.trans (rdig_stop (.inr ⟨c, hc, fun q => hlow q.1⟩))
        clear hc hlow hlt
        by_cases hkf : k = 0
        · have hk0 : ((k : Int) == 0) = true := by simp; omega
          have HV : Hid (R = (0, 0)) := hidD (by
            have q := rMag_at G.out.1 G.out.2.1 RS.out
            rw [if_pos (.inl hkf)] at q
            rw [List.drop_zero] at q
            rw [HR.out, numV_plus HH.out, q]
          )
          clear hf0 hkf
          go_wp2
          go_ret2
          rw [HV.out]
          exact ⟨rfl, rfl⟩
        obtain ⟨c0, hc0⟩ : ∃ c0, s[0]? = some c0 := ⟨_, List.getElem?_eq_getElem (by have := G.out; omega)⟩
        have hk0 : ((k : Int) == 0) = false := by simp; omega
        have hixf : ∀ W, (Instr.index 9 (.string x) (.int .i64 0)).run Tryz.prog W = .ok (.int .u8 (c0.toNat : Nat)) W := IX.out 0 c0 hc0
        by_cases hz : c0 = 48
        · subst hz
          change ∀ W, (Instr.index 9 (.string x) (.int .i64 0)).run Tryz.prog W = .ok (.int .u8 48) W at hixf
          by_cases h2 : 1 < k
          · have e2 : decide ((1 : Int) < (k : Int)) = true := by simp; omega
            have HV : Hid (R = (0, 0)) := hidD (by
              have q := rMag_at G.out.1 G.out.2.1 RS.out
              rw [if_pos (.inr ⟨hc0, h2⟩)] at q
              rw [List.drop_zero] at q
              rw [HR.out, numV_plus HH.out, q]
            )
            clear hkf hc0 h2 hf0
            go_wp2
            go_ret2
            rw [HV.out]
            exact ⟨rfl, rfl⟩
          · have e2 : decide ((1 : Int) < (k : Int)) = false := by simp; omega
            by_cases hm0 : m = -9223372036854775808
            · have e3 : (m == -9223372036854775808) = true := by simpa using hm0
              have HV : Hid (R = (0, 0)) := hidD (by
                have q := rMag_at G.out.1 G.out.2.1 RS.out
                rw [if_neg (by rintro (q | q); exact hkf q; exact h2 q.2)] at q
                rw [List.drop_zero] at q
                rw [HR.out, numV_plus HH.out, q]
                simp only []
                rw [if_pos hm0])
              clear hkf hc0 h2 hm0 hf0
              go_wp2
              go_ret2
              rw [HV.out]
              exact ⟨rfl, rfl⟩
            have e3 : (m == -9223372036854775808) = false := by simpa using hm0
            have e4 : wrap64 (-m) = -m := w64_in _ (by have := G.out; omega)
            have HV : Hid (R = (-m, k)) := hidD (by
              have q := rMag_at G.out.1 G.out.2.1 RS.out
              rw [if_neg (by rintro (q | q); exact hkf q; exact h2 q.2)] at q
              rw [List.drop_zero] at q
              rw [HR.out, numV_plus HH.out, q]
              simp only []
              rw [if_neg hm0, List.length_drop]
              congr 1
              have := G.out
              omega)
            clear hkf hc0 h2 hm0 hf0
            go_wp2
            go_ret2
            rw [HV.out]
            refine ⟨?_, rfl⟩
            show Ending.returned (.tuple #[.int .i64 (wrap64 (-m)), .int .i64 (k : Nat)]) = _
            rw [e4]
        have e1 : ((c0.toNat : Int) == 48) = false := by
          have : c0.toNat ≠ 48 := fun q => hz (UInt8.toNat_inj.1 q)
          simp; omega
        by_cases hm0 : m = -9223372036854775808
        · have e3 : (m == -9223372036854775808) = true := by simpa using hm0
          have HV : Hid (R = (0, 0)) := hidD (by
            have q := rMag_at G.out.1 G.out.2.1 RS.out
            rw [if_neg (by rintro (q | q); exact hkf q; exact hz (by rw [hc0] at q; simpa using q.1))] at q
            rw [List.drop_zero] at q
            rw [HR.out, numV_plus HH.out, q]
            simp only []
            rw [if_pos hm0])
          clear hkf hc0 hz hm0 hf0
          go_wp2
          go_ret2
          rw [HV.out]
          exact ⟨rfl, rfl⟩
        have e3 : (m == -9223372036854775808) = false := by simpa using hm0
        have e4 : wrap64 (-m) = -m := w64_in _ (by have := G.out; omega)
        have HV : Hid (R = (-m, k)) := hidD (by
          have q := rMag_at G.out.1 G.out.2.1 RS.out
          rw [if_neg (by rintro (q | q); exact hkf q; exact hz (by rw [hc0] at q; simpa using q.1))] at q
          rw [List.drop_zero] at q
          rw [HR.out, numV_plus HH.out, q]
          simp only []
          rw [if_neg hm0, List.length_drop]
          congr 1
          have := G.out
          omega)
        clear hkf hc0 hz hm0 hf0
        go_wp2
        go_ret2
        rw [HV.out]
        refine ⟨?_, rfl⟩
        show Ending.returned (.tuple #[.int .i64 (wrap64 (-m)), .int .i64 (k : Nat)]) = _
        rw [e4]
    · have hkl : k = s.length := by have := G.out; omega
      have hd1 : decide ((k : Int) < (x.size : Int)) = false := by rw [HSZ.out]; simp; omega
      have hd2 : decide (k < x.size) = false := by rw [HSZ.out]; simp; omega
      have RS : Hid (rdig 0 (s.drop 0) = some (m, s.drop k)) := RD.out.trans (rdig_stop (.inl hkl))
      clear hkl hlt
      by_cases hkf : k = 0
      · have hk0 : ((k : Int) == 0) = true := by simp; omega
        have HV : Hid (R = (0, 0)) := hidD (by
          have q := rMag_at G.out.1 G.out.2.1 RS.out
          rw [if_pos (.inl hkf)] at q
          rw [List.drop_zero] at q
          rw [HR.out, numV_plus HH.out, q]
        )
        clear hf0 hkf
        go_wp2
        go_ret2
        rw [HV.out]
        exact ⟨rfl, rfl⟩
      obtain ⟨c0, hc0⟩ : ∃ c0, s[0]? = some c0 := ⟨_, List.getElem?_eq_getElem (by have := G.out; omega)⟩
      have hk0 : ((k : Int) == 0) = false := by simp; omega
      have hixf : ∀ W, (Instr.index 9 (.string x) (.int .i64 0)).run Tryz.prog W = .ok (.int .u8 (c0.toNat : Nat)) W := IX.out 0 c0 hc0
      by_cases hz : c0 = 48
      · subst hz
        change ∀ W, (Instr.index 9 (.string x) (.int .i64 0)).run Tryz.prog W = .ok (.int .u8 48) W at hixf
        by_cases h2 : 1 < k
        · have e2 : decide ((1 : Int) < (k : Int)) = true := by simp; omega
          have HV : Hid (R = (0, 0)) := hidD (by
            have q := rMag_at G.out.1 G.out.2.1 RS.out
            rw [if_pos (.inr ⟨hc0, h2⟩)] at q
            rw [List.drop_zero] at q
            rw [HR.out, numV_plus HH.out, q]
          )
          clear hkf hc0 h2 hf0
          go_wp2
          go_ret2
          rw [HV.out]
          exact ⟨rfl, rfl⟩
        · have e2 : decide ((1 : Int) < (k : Int)) = false := by simp; omega
          by_cases hm0 : m = -9223372036854775808
          · have e3 : (m == -9223372036854775808) = true := by simpa using hm0
            have HV : Hid (R = (0, 0)) := hidD (by
              have q := rMag_at G.out.1 G.out.2.1 RS.out
              rw [if_neg (by rintro (q | q); exact hkf q; exact h2 q.2)] at q
              rw [List.drop_zero] at q
              rw [HR.out, numV_plus HH.out, q]
              simp only []
              rw [if_pos hm0])
            clear hkf hc0 h2 hm0 hf0
            go_wp2
            go_ret2
            rw [HV.out]
            exact ⟨rfl, rfl⟩
          have e3 : (m == -9223372036854775808) = false := by simpa using hm0
          have e4 : wrap64 (-m) = -m := w64_in _ (by have := G.out; omega)
          have HV : Hid (R = (-m, k)) := hidD (by
            have q := rMag_at G.out.1 G.out.2.1 RS.out
            rw [if_neg (by rintro (q | q); exact hkf q; exact h2 q.2)] at q
            rw [List.drop_zero] at q
            rw [HR.out, numV_plus HH.out, q]
            simp only []
            rw [if_neg hm0, List.length_drop]
            congr 1
            have := G.out
            omega)
          clear hkf hc0 h2 hm0 hf0
          go_wp2
          go_ret2
          rw [HV.out]
          refine ⟨?_, rfl⟩
          show Ending.returned (.tuple #[.int .i64 (wrap64 (-m)), .int .i64 (k : Nat)]) = _
          rw [e4]
      have e1 : ((c0.toNat : Int) == 48) = false := by
        have : c0.toNat ≠ 48 := fun q => hz (UInt8.toNat_inj.1 q)
        simp; omega
      by_cases hm0 : m = -9223372036854775808
      · have e3 : (m == -9223372036854775808) = true := by simpa using hm0
        have HV : Hid (R = (0, 0)) := hidD (by
          have q := rMag_at G.out.1 G.out.2.1 RS.out
          rw [if_neg (by rintro (q | q); exact hkf q; exact hz (by rw [hc0] at q; simpa using q.1))] at q
          rw [List.drop_zero] at q
          rw [HR.out, numV_plus HH.out, q]
          simp only []
          rw [if_pos hm0])
        clear hkf hc0 hz hm0 hf0
        go_wp2
        go_ret2
        rw [HV.out]
        exact ⟨rfl, rfl⟩
      have e3 : (m == -9223372036854775808) = false := by simpa using hm0
      have e4 : wrap64 (-m) = -m := w64_in _ (by have := G.out; omega)
      have HV : Hid (R = (-m, k)) := hidD (by
        have q := rMag_at G.out.1 G.out.2.1 RS.out
        rw [if_neg (by rintro (q | q); exact hkf q; exact hz (by rw [hc0] at q; simpa using q.1))] at q
        rw [List.drop_zero] at q
        rw [HR.out, numV_plus HH.out, q]
        simp only []
        rw [if_neg hm0, List.length_drop]
        congr 1
        have := G.out
        omega)
      clear hkf hc0 hz hm0 hf0
      go_wp2
      go_ret2
      rw [HV.out]
      refine ⟨?_, rfl⟩
      show Ending.returned (.tuple #[.int .i64 (wrap64 (-m)), .int .i64 (k : Nat)]) = _
      rw [e4]

set_option maxRecDepth 100000 in
set_option maxHeartbeats 8000000 in
theorem number_plus (s : B) (c1 : UInt8) (r1 : B) (h0 : s = c1 :: r1) (hh : s.head? ≠ some 45) (hs : s.length ≤ 1000000) (w : World) : Calls Tryz.prog 91 #[.string (bs s)] w fun e w' => e = .returned (.tuple #[.int .i64 (numV s).1, .int .i64 ((numV s).2 : Nat)]) ∧ w' = w := by
  have HSZ : Hid ((bs s).size = s.length) := bs_size s
  have HS : Hid (s.length ≤ 1000000) := hs
  have HH : Hid (s.head? ≠ some 45) := hh
  have IX : Hid (∀ (k : Nat) (c : UInt8), s[k]? = some c → ∀ W, (Instr.index 9 (.string (bs s)) (.int .i64 (k : Nat))).run Tryz.prog W = .ok (.int .u8 (c.toNat : Nat)) W) := fun k c h W => ix_str s k c h W
  have B0 : Hid (NumR s 0 (s.length - 0) (.int .i64 0) (.int .i64 0) w w) := ⟨0, 0, rfl, rfl, rfl, Nat.le_refl _, Nat.zero_le _, rfl, by omega, by omega, rfl⟩
  obtain ⟨R, hR⟩ : ∃ R, R = numV s := ⟨_, rfl⟩
  rw [← hR]
  have HR : Hid (R = numV s) := hR
  have hd0 : decide ((0 : Int) < ((bs s).size : Int)) = true := by rw [bs_size, h0]; simp
  have hd0n : decide (0 < (bs s).size) = true := by rw [bs_size, h0]; simp
  have hix0 : ∀ W, (Instr.index 9 (.string (bs s)) (.int .i64 0)).run Tryz.prog W = .ok (.int .u8 (c1.toNat : Nat)) W := by subst h0; exact ix_str (c1 :: r1) 0 c1 rfl
  have h45 : ((c1.toNat : Int) == 45) = false := by
    have : c1.toNat ≠ 45 := fun q => hh (by rw [h0, UInt8.toNat_inj.1 (show c1.toNat = (45 : UInt8).toNat from q)]; rfl)
    simp; omega
  generalize bs s = x at *
  clear hs hh hR h0
  go_enter Tryz.func91, Tryz.ntmps91
  go_wp2
  clear hix0 h45 hd0 hd0n
  go_loopg [4, 5] (s.length - 0) (fun g vn vi wr => NumR s 0 g vn vi w wr)
  case atStart => exact B0.out
  case round =>
    obtain ⟨k, m, rfl, rfl, hg, hfk, hks, hrd, hm1, hm2, rfl⟩ := hrel
    have G : Hid (0 ≤ k ∧ k ≤ s.length ∧ s.length - k = gk ∧ -9223372036854775808 ≤ m ∧ m ≤ 0 ∧ s.length ≤ 1000000) := ⟨hfk, hks, hg, hm1, hm2, HS.out⟩
    have RD : Hid (rdig 0 (s.drop 0) = rdig m (s.drop k)) := hrd
    clear hg hfk hks hrd hm1 hm2 B0
    have hf0 : True := trivial
    by_cases hlt : k < s.length
    · obtain ⟨c, hc⟩ : ∃ c, s[k]? = some c := ⟨_, List.getElem?_eq_getElem hlt⟩
      have hix := IX.out k c hc
      have hd1 : decide ((k : Int) < (x.size : Int)) = true := by rw [HSZ.out]; simp; omega
      have hd2 : decide (k < x.size) = true := by rw [HSZ.out]; simp; omega
      by_cases hlow : 48 ≤ c.toNat
      · by_cases hhigh : c.toNat ≤ 57
        · have hdig : isDig c := ⟨hlow, hhigh⟩
          have hst := rdig_step (m := m) hc hdig
          have ST : Hid (rdig m (s.drop k) = if m < Int.tdiv (-9223372036854775808 + ((c.toNat - 48 : Nat) : Int)) 10 then none else rdig (10 * m - ((c.toNat - 48 : Nat) : Int)) (s.drop (k + 1))) := hst
          have hw3 : wrap64 ((k : Int) + 1) = ((k + 1 : Nat) : Int) := by have := G.out; simp [wrap64]; omega
          have TL := tdiv_low (c.toNat - 48) m (by omega)
          have HTL : Hid (m < Int.tdiv (-9223372036854775808 + ((c.toNat - 48 : Nat) : Int)) 10 ↔ 10 * m - ((c.toNat - 48 : Nat) : Int) < -9223372036854775808) := TL
          clear hst TL hc hdig
          have hcases : c.toNat = 48 ∨ c.toNat = 49 ∨ c.toNat = 50 ∨ c.toNat = 51 ∨ c.toNat = 52 ∨ c.toNat = 53 ∨ c.toNat = 54 ∨ c.toNat = 55 ∨ c.toNat = 56 ∨ c.toNat = 57 := by omega
          generalize c.toNat = v at *
          clear hlow hhigh
          rcases hcases with rfl | rfl | rfl | rfl | rfl | rfl | rfl | rfl | rfl | rfl
          · by_cases hsm : m < -922337203685477580
            · have e5 : decide (m < -922337203685477580) = true := by simpa using hsm
              have HN : Hid (R = (0, 0)) := hidD (by
                have q : rdig 0 (s.drop 0) = none := by rw [RD.out, ST.out, if_pos (show m < Int.tdiv (-9223372036854775808 + ((48 - 48 : Nat) : Int)) 10 from hsm)]
                have q2 : rMag (s.drop 0) = none := by unfold rMag; rw [q]
                rw [List.drop_zero] at q2
                rw [HR.out, numV_plus HH.out, q2])
              clear hsm hlt
              go_wp2
              go_ret2
              rw [HN.out]
              exact ⟨rfl, rfl⟩
            · have e5 : decide (m < -922337203685477580) = false := by simpa using hsm
              have hnl : ¬ (10 * m - 0 < -9223372036854775808) := fun q => hsm (HTL.out.2 q)
              have e6 : wrap64 (10 * m) = 10 * m := w64_in _ (by have := G.out; omega)
              have e7 : wrap64 (10 * m - 0) = 10 * m - 0 := w64_in _ (by have := G.out; omega)
              have GO : Hid (rdig 0 (s.drop 0) = rdig (10 * m - 0) (s.drop (k + 1)) ∧ -9223372036854775808 ≤ 10 * m - 0 ∧ k < s.length) := ⟨by rw [RD.out, ST.out, if_neg (show ¬ (m < Int.tdiv (-9223372036854775808 + ((48 - 48 : Nat) : Int)) 10) from hsm)]; rfl, by omega, hlt⟩
              clear hsm hnl hlt
              go_wp2
              go_roundg (s.length - (k + 1))
              case measure => have := G.out; have := GO.out.2.2; omega
              case rel => exact ⟨k + 1, 10 * m - 0, by simp [hw3], by simp [e6, e7], rfl, by have := G.out; omega, GO.out.2.2, GO.out.1, GO.out.2.1, by have := G.out; omega, rfl⟩
          · by_cases hsm : m < -922337203685477580
            · have e5 : decide (m < -922337203685477580) = true := by simpa using hsm
              have HN : Hid (R = (0, 0)) := hidD (by
                have q : rdig 0 (s.drop 0) = none := by rw [RD.out, ST.out, if_pos (show m < Int.tdiv (-9223372036854775808 + ((49 - 48 : Nat) : Int)) 10 from hsm)]
                have q2 : rMag (s.drop 0) = none := by unfold rMag; rw [q]
                rw [List.drop_zero] at q2
                rw [HR.out, numV_plus HH.out, q2])
              clear hsm hlt
              go_wp2
              go_ret2
              rw [HN.out]
              exact ⟨rfl, rfl⟩
            · have e5 : decide (m < -922337203685477580) = false := by simpa using hsm
              have hnl : ¬ (10 * m - 1 < -9223372036854775808) := fun q => hsm (HTL.out.2 q)
              have e6 : wrap64 (10 * m) = 10 * m := w64_in _ (by have := G.out; omega)
              have e7 : wrap64 (10 * m - 1) = 10 * m - 1 := w64_in _ (by have := G.out; omega)
              have GO : Hid (rdig 0 (s.drop 0) = rdig (10 * m - 1) (s.drop (k + 1)) ∧ -9223372036854775808 ≤ 10 * m - 1 ∧ k < s.length) := ⟨by rw [RD.out, ST.out, if_neg (show ¬ (m < Int.tdiv (-9223372036854775808 + ((49 - 48 : Nat) : Int)) 10) from hsm)]; rfl, by omega, hlt⟩
              clear hsm hnl hlt
              go_wp2
              go_roundg (s.length - (k + 1))
              case measure => have := G.out; have := GO.out.2.2; omega
              case rel => exact ⟨k + 1, 10 * m - 1, by simp [hw3], by simp [e6, e7], rfl, by have := G.out; omega, GO.out.2.2, GO.out.1, GO.out.2.1, by have := G.out; omega, rfl⟩
          · by_cases hsm : m < -922337203685477580
            · have e5 : decide (m < -922337203685477580) = true := by simpa using hsm
              have HN : Hid (R = (0, 0)) := hidD (by
                have q : rdig 0 (s.drop 0) = none := by rw [RD.out, ST.out, if_pos (show m < Int.tdiv (-9223372036854775808 + ((50 - 48 : Nat) : Int)) 10 from hsm)]
                have q2 : rMag (s.drop 0) = none := by unfold rMag; rw [q]
                rw [List.drop_zero] at q2
                rw [HR.out, numV_plus HH.out, q2])
              clear hsm hlt
              go_wp2
              go_ret2
              rw [HN.out]
              exact ⟨rfl, rfl⟩
            · have e5 : decide (m < -922337203685477580) = false := by simpa using hsm
              have hnl : ¬ (10 * m - 2 < -9223372036854775808) := fun q => hsm (HTL.out.2 q)
              have e6 : wrap64 (10 * m) = 10 * m := w64_in _ (by have := G.out; omega)
              have e7 : wrap64 (10 * m - 2) = 10 * m - 2 := w64_in _ (by have := G.out; omega)
              have GO : Hid (rdig 0 (s.drop 0) = rdig (10 * m - 2) (s.drop (k + 1)) ∧ -9223372036854775808 ≤ 10 * m - 2 ∧ k < s.length) := ⟨by rw [RD.out, ST.out, if_neg (show ¬ (m < Int.tdiv (-9223372036854775808 + ((50 - 48 : Nat) : Int)) 10) from hsm)]; rfl, by omega, hlt⟩
              clear hsm hnl hlt
              go_wp2
              go_roundg (s.length - (k + 1))
              case measure => have := G.out; have := GO.out.2.2; omega
              case rel => exact ⟨k + 1, 10 * m - 2, by simp [hw3], by simp [e6, e7], rfl, by have := G.out; omega, GO.out.2.2, GO.out.1, GO.out.2.1, by have := G.out; omega, rfl⟩
          · by_cases hsm : m < -922337203685477580
            · have e5 : decide (m < -922337203685477580) = true := by simpa using hsm
              have HN : Hid (R = (0, 0)) := hidD (by
                have q : rdig 0 (s.drop 0) = none := by rw [RD.out, ST.out, if_pos (show m < Int.tdiv (-9223372036854775808 + ((51 - 48 : Nat) : Int)) 10 from hsm)]
                have q2 : rMag (s.drop 0) = none := by unfold rMag; rw [q]
                rw [List.drop_zero] at q2
                rw [HR.out, numV_plus HH.out, q2])
              clear hsm hlt
              go_wp2
              go_ret2
              rw [HN.out]
              exact ⟨rfl, rfl⟩
            · have e5 : decide (m < -922337203685477580) = false := by simpa using hsm
              have hnl : ¬ (10 * m - 3 < -9223372036854775808) := fun q => hsm (HTL.out.2 q)
              have e6 : wrap64 (10 * m) = 10 * m := w64_in _ (by have := G.out; omega)
              have e7 : wrap64 (10 * m - 3) = 10 * m - 3 := w64_in _ (by have := G.out; omega)
              have GO : Hid (rdig 0 (s.drop 0) = rdig (10 * m - 3) (s.drop (k + 1)) ∧ -9223372036854775808 ≤ 10 * m - 3 ∧ k < s.length) := ⟨by rw [RD.out, ST.out, if_neg (show ¬ (m < Int.tdiv (-9223372036854775808 + ((51 - 48 : Nat) : Int)) 10) from hsm)]; rfl, by omega, hlt⟩
              clear hsm hnl hlt
              go_wp2
              go_roundg (s.length - (k + 1))
              case measure => have := G.out; have := GO.out.2.2; omega
              case rel => exact ⟨k + 1, 10 * m - 3, by simp [hw3], by simp [e6, e7], rfl, by have := G.out; omega, GO.out.2.2, GO.out.1, GO.out.2.1, by have := G.out; omega, rfl⟩
          · by_cases hsm : m < -922337203685477580
            · have e5 : decide (m < -922337203685477580) = true := by simpa using hsm
              have HN : Hid (R = (0, 0)) := hidD (by
                have q : rdig 0 (s.drop 0) = none := by rw [RD.out, ST.out, if_pos (show m < Int.tdiv (-9223372036854775808 + ((52 - 48 : Nat) : Int)) 10 from hsm)]
                have q2 : rMag (s.drop 0) = none := by unfold rMag; rw [q]
                rw [List.drop_zero] at q2
                rw [HR.out, numV_plus HH.out, q2])
              clear hsm hlt
              go_wp2
              go_ret2
              rw [HN.out]
              exact ⟨rfl, rfl⟩
            · have e5 : decide (m < -922337203685477580) = false := by simpa using hsm
              have hnl : ¬ (10 * m - 4 < -9223372036854775808) := fun q => hsm (HTL.out.2 q)
              have e6 : wrap64 (10 * m) = 10 * m := w64_in _ (by have := G.out; omega)
              have e7 : wrap64 (10 * m - 4) = 10 * m - 4 := w64_in _ (by have := G.out; omega)
              have GO : Hid (rdig 0 (s.drop 0) = rdig (10 * m - 4) (s.drop (k + 1)) ∧ -9223372036854775808 ≤ 10 * m - 4 ∧ k < s.length) := ⟨by rw [RD.out, ST.out, if_neg (show ¬ (m < Int.tdiv (-9223372036854775808 + ((52 - 48 : Nat) : Int)) 10) from hsm)]; rfl, by omega, hlt⟩
              clear hsm hnl hlt
              go_wp2
              go_roundg (s.length - (k + 1))
              case measure => have := G.out; have := GO.out.2.2; omega
              case rel => exact ⟨k + 1, 10 * m - 4, by simp [hw3], by simp [e6, e7], rfl, by have := G.out; omega, GO.out.2.2, GO.out.1, GO.out.2.1, by have := G.out; omega, rfl⟩
          · by_cases hsm : m < -922337203685477580
            · have e5 : decide (m < -922337203685477580) = true := by simpa using hsm
              have HN : Hid (R = (0, 0)) := hidD (by
                have q : rdig 0 (s.drop 0) = none := by rw [RD.out, ST.out, if_pos (show m < Int.tdiv (-9223372036854775808 + ((53 - 48 : Nat) : Int)) 10 from hsm)]
                have q2 : rMag (s.drop 0) = none := by unfold rMag; rw [q]
                rw [List.drop_zero] at q2
                rw [HR.out, numV_plus HH.out, q2])
              clear hsm hlt
              go_wp2
              go_ret2
              rw [HN.out]
              exact ⟨rfl, rfl⟩
            · have e5 : decide (m < -922337203685477580) = false := by simpa using hsm
              have hnl : ¬ (10 * m - 5 < -9223372036854775808) := fun q => hsm (HTL.out.2 q)
              have e6 : wrap64 (10 * m) = 10 * m := w64_in _ (by have := G.out; omega)
              have e7 : wrap64 (10 * m - 5) = 10 * m - 5 := w64_in _ (by have := G.out; omega)
              have GO : Hid (rdig 0 (s.drop 0) = rdig (10 * m - 5) (s.drop (k + 1)) ∧ -9223372036854775808 ≤ 10 * m - 5 ∧ k < s.length) := ⟨by rw [RD.out, ST.out, if_neg (show ¬ (m < Int.tdiv (-9223372036854775808 + ((53 - 48 : Nat) : Int)) 10) from hsm)]; rfl, by omega, hlt⟩
              clear hsm hnl hlt
              go_wp2
              go_roundg (s.length - (k + 1))
              case measure => have := G.out; have := GO.out.2.2; omega
              case rel => exact ⟨k + 1, 10 * m - 5, by simp [hw3], by simp [e6, e7], rfl, by have := G.out; omega, GO.out.2.2, GO.out.1, GO.out.2.1, by have := G.out; omega, rfl⟩
          · by_cases hsm : m < -922337203685477580
            · have e5 : decide (m < -922337203685477580) = true := by simpa using hsm
              have HN : Hid (R = (0, 0)) := hidD (by
                have q : rdig 0 (s.drop 0) = none := by rw [RD.out, ST.out, if_pos (show m < Int.tdiv (-9223372036854775808 + ((54 - 48 : Nat) : Int)) 10 from hsm)]
                have q2 : rMag (s.drop 0) = none := by unfold rMag; rw [q]
                rw [List.drop_zero] at q2
                rw [HR.out, numV_plus HH.out, q2])
              clear hsm hlt
              go_wp2
              go_ret2
              rw [HN.out]
              exact ⟨rfl, rfl⟩
            · have e5 : decide (m < -922337203685477580) = false := by simpa using hsm
              have hnl : ¬ (10 * m - 6 < -9223372036854775808) := fun q => hsm (HTL.out.2 q)
              have e6 : wrap64 (10 * m) = 10 * m := w64_in _ (by have := G.out; omega)
              have e7 : wrap64 (10 * m - 6) = 10 * m - 6 := w64_in _ (by have := G.out; omega)
              have GO : Hid (rdig 0 (s.drop 0) = rdig (10 * m - 6) (s.drop (k + 1)) ∧ -9223372036854775808 ≤ 10 * m - 6 ∧ k < s.length) := ⟨by rw [RD.out, ST.out, if_neg (show ¬ (m < Int.tdiv (-9223372036854775808 + ((54 - 48 : Nat) : Int)) 10) from hsm)]; rfl, by omega, hlt⟩
              clear hsm hnl hlt
              go_wp2
              go_roundg (s.length - (k + 1))
              case measure => have := G.out; have := GO.out.2.2; omega
              case rel => exact ⟨k + 1, 10 * m - 6, by simp [hw3], by simp [e6, e7], rfl, by have := G.out; omega, GO.out.2.2, GO.out.1, GO.out.2.1, by have := G.out; omega, rfl⟩
          · by_cases hsm : m < -922337203685477580
            · have e5 : decide (m < -922337203685477580) = true := by simpa using hsm
              have HN : Hid (R = (0, 0)) := hidD (by
                have q : rdig 0 (s.drop 0) = none := by rw [RD.out, ST.out, if_pos (show m < Int.tdiv (-9223372036854775808 + ((55 - 48 : Nat) : Int)) 10 from hsm)]
                have q2 : rMag (s.drop 0) = none := by unfold rMag; rw [q]
                rw [List.drop_zero] at q2
                rw [HR.out, numV_plus HH.out, q2])
              clear hsm hlt
              go_wp2
              go_ret2
              rw [HN.out]
              exact ⟨rfl, rfl⟩
            · have e5 : decide (m < -922337203685477580) = false := by simpa using hsm
              have hnl : ¬ (10 * m - 7 < -9223372036854775808) := fun q => hsm (HTL.out.2 q)
              have e6 : wrap64 (10 * m) = 10 * m := w64_in _ (by have := G.out; omega)
              have e7 : wrap64 (10 * m - 7) = 10 * m - 7 := w64_in _ (by have := G.out; omega)
              have GO : Hid (rdig 0 (s.drop 0) = rdig (10 * m - 7) (s.drop (k + 1)) ∧ -9223372036854775808 ≤ 10 * m - 7 ∧ k < s.length) := ⟨by rw [RD.out, ST.out, if_neg (show ¬ (m < Int.tdiv (-9223372036854775808 + ((55 - 48 : Nat) : Int)) 10) from hsm)]; rfl, by omega, hlt⟩
              clear hsm hnl hlt
              go_wp2
              go_roundg (s.length - (k + 1))
              case measure => have := G.out; have := GO.out.2.2; omega
              case rel => exact ⟨k + 1, 10 * m - 7, by simp [hw3], by simp [e6, e7], rfl, by have := G.out; omega, GO.out.2.2, GO.out.1, GO.out.2.1, by have := G.out; omega, rfl⟩
          · by_cases hsm : m < -922337203685477580
            · have e5 : decide (m < -922337203685477580) = true := by simpa using hsm
              have HN : Hid (R = (0, 0)) := hidD (by
                have q : rdig 0 (s.drop 0) = none := by rw [RD.out, ST.out, if_pos (show m < Int.tdiv (-9223372036854775808 + ((56 - 48 : Nat) : Int)) 10 from hsm)]
                have q2 : rMag (s.drop 0) = none := by unfold rMag; rw [q]
                rw [List.drop_zero] at q2
                rw [HR.out, numV_plus HH.out, q2])
              clear hsm hlt
              go_wp2
              go_ret2
              rw [HN.out]
              exact ⟨rfl, rfl⟩
            · have e5 : decide (m < -922337203685477580) = false := by simpa using hsm
              have hnl : ¬ (10 * m - 8 < -9223372036854775808) := fun q => hsm (HTL.out.2 q)
              have e6 : wrap64 (10 * m) = 10 * m := w64_in _ (by have := G.out; omega)
              have e7 : wrap64 (10 * m - 8) = 10 * m - 8 := w64_in _ (by have := G.out; omega)
              have GO : Hid (rdig 0 (s.drop 0) = rdig (10 * m - 8) (s.drop (k + 1)) ∧ -9223372036854775808 ≤ 10 * m - 8 ∧ k < s.length) := ⟨by rw [RD.out, ST.out, if_neg (show ¬ (m < Int.tdiv (-9223372036854775808 + ((56 - 48 : Nat) : Int)) 10) from hsm)]; rfl, by omega, hlt⟩
              clear hsm hnl hlt
              go_wp2
              go_roundg (s.length - (k + 1))
              case measure => have := G.out; have := GO.out.2.2; omega
              case rel => exact ⟨k + 1, 10 * m - 8, by simp [hw3], by simp [e6, e7], rfl, by have := G.out; omega, GO.out.2.2, GO.out.1, GO.out.2.1, by have := G.out; omega, rfl⟩
          · by_cases hsm : m < -922337203685477579
            · have e5 : decide (m < -922337203685477579) = true := by simpa using hsm
              have HN : Hid (R = (0, 0)) := hidD (by
                have q : rdig 0 (s.drop 0) = none := by rw [RD.out, ST.out, if_pos (show m < Int.tdiv (-9223372036854775808 + ((57 - 48 : Nat) : Int)) 10 from hsm)]
                have q2 : rMag (s.drop 0) = none := by unfold rMag; rw [q]
                rw [List.drop_zero] at q2
                rw [HR.out, numV_plus HH.out, q2])
              clear hsm hlt
              go_wp2
              go_ret2
              rw [HN.out]
              exact ⟨rfl, rfl⟩
            · have e5 : decide (m < -922337203685477579) = false := by simpa using hsm
              have hnl : ¬ (10 * m - 9 < -9223372036854775808) := fun q => hsm (HTL.out.2 q)
              have e6 : wrap64 (10 * m) = 10 * m := w64_in _ (by have := G.out; omega)
              have e7 : wrap64 (10 * m - 9) = 10 * m - 9 := w64_in _ (by have := G.out; omega)
              have GO : Hid (rdig 0 (s.drop 0) = rdig (10 * m - 9) (s.drop (k + 1)) ∧ -9223372036854775808 ≤ 10 * m - 9 ∧ k < s.length) := ⟨by rw [RD.out, ST.out, if_neg (show ¬ (m < Int.tdiv (-9223372036854775808 + ((57 - 48 : Nat) : Int)) 10) from hsm)]; rfl, by omega, hlt⟩
              clear hsm hnl hlt
              go_wp2
              go_roundg (s.length - (k + 1))
              case measure => have := G.out; have := GO.out.2.2; omega
              case rel => exact ⟨k + 1, 10 * m - 9, by simp [hw3], by simp [e6, e7], rfl, by have := G.out; omega, GO.out.2.2, GO.out.1, GO.out.2.1, by have := G.out; omega, rfl⟩
        · have e1' : decide ((48 : Int) ≤ (c.toNat : Int)) = true := by simp; omega
          have e2' : decide ((c.toNat : Int) ≤ 57) = false := by simp; omega
          have RS : Hid (rdig 0 (s.drop 0) = some (m, s.drop k)) := RD.out.trans (rdig_stop (.inr ⟨c, hc, fun q => hhigh q.2⟩))
          clear hc hlow hhigh hlt
          by_cases hkf : k = 0
          · have hk0 : ((k : Int) == 0) = true := by simp; omega
            have HV : Hid (R = (0, 0)) := hidD (by
              have q := rMag_at G.out.1 G.out.2.1 RS.out
              rw [if_pos (.inl hkf)] at q
              rw [List.drop_zero] at q
              rw [HR.out, numV_plus HH.out, q]
            )
            clear hf0 hkf
            go_wp2
            go_ret2
            rw [HV.out]
            exact ⟨rfl, rfl⟩
          obtain ⟨c0, hc0⟩ : ∃ c0, s[0]? = some c0 := ⟨_, List.getElem?_eq_getElem (by have := G.out; omega)⟩
          have hk0 : ((k : Int) == 0) = false := by simp; omega
          have hixf : ∀ W, (Instr.index 9 (.string x) (.int .i64 0)).run Tryz.prog W = .ok (.int .u8 (c0.toNat : Nat)) W := IX.out 0 c0 hc0
          by_cases hz : c0 = 48
          · subst hz
            change ∀ W, (Instr.index 9 (.string x) (.int .i64 0)).run Tryz.prog W = .ok (.int .u8 48) W at hixf
            by_cases h2 : 1 < k
            · have e2 : decide ((1 : Int) < (k : Int)) = true := by simp; omega
              have HV : Hid (R = (0, 0)) := hidD (by
                have q := rMag_at G.out.1 G.out.2.1 RS.out
                rw [if_pos (.inr ⟨hc0, h2⟩)] at q
                rw [List.drop_zero] at q
                rw [HR.out, numV_plus HH.out, q]
              )
              clear hkf hc0 h2 hf0
              go_wp2
              go_ret2
              rw [HV.out]
              exact ⟨rfl, rfl⟩
            · have e2 : decide ((1 : Int) < (k : Int)) = false := by simp; omega
              by_cases hm0 : m = -9223372036854775808
              · have e3 : (m == -9223372036854775808) = true := by simpa using hm0
                have HV : Hid (R = (0, 0)) := hidD (by
                  have q := rMag_at G.out.1 G.out.2.1 RS.out
                  rw [if_neg (by rintro (q | q); exact hkf q; exact h2 q.2)] at q
                  rw [List.drop_zero] at q
                  rw [HR.out, numV_plus HH.out, q]
                  simp only []
                  rw [if_pos hm0])
                clear hkf hc0 h2 hm0 hf0
                go_wp2
                go_ret2
                rw [HV.out]
                exact ⟨rfl, rfl⟩
              have e3 : (m == -9223372036854775808) = false := by simpa using hm0
              have e4 : wrap64 (-m) = -m := w64_in _ (by have := G.out; omega)
              have HV : Hid (R = (-m, k)) := hidD (by
                have q := rMag_at G.out.1 G.out.2.1 RS.out
                rw [if_neg (by rintro (q | q); exact hkf q; exact h2 q.2)] at q
                rw [List.drop_zero] at q
                rw [HR.out, numV_plus HH.out, q]
                simp only []
                rw [if_neg hm0, List.length_drop]
                congr 1
                have := G.out
                omega)
              clear hkf hc0 h2 hm0 hf0
              go_wp2
              go_ret2
              rw [HV.out]
              refine ⟨?_, rfl⟩
              show Ending.returned (.tuple #[.int .i64 (wrap64 (-m)), .int .i64 (k : Nat)]) = _
              rw [e4]
          have e1 : ((c0.toNat : Int) == 48) = false := by
            have : c0.toNat ≠ 48 := fun q => hz (UInt8.toNat_inj.1 q)
            simp; omega
          by_cases hm0 : m = -9223372036854775808
          · have e3 : (m == -9223372036854775808) = true := by simpa using hm0
            have HV : Hid (R = (0, 0)) := hidD (by
              have q := rMag_at G.out.1 G.out.2.1 RS.out
              rw [if_neg (by rintro (q | q); exact hkf q; exact hz (by rw [hc0] at q; simpa using q.1))] at q
              rw [List.drop_zero] at q
              rw [HR.out, numV_plus HH.out, q]
              simp only []
              rw [if_pos hm0])
            clear hkf hc0 hz hm0 hf0
            go_wp2
            go_ret2
            rw [HV.out]
            exact ⟨rfl, rfl⟩
          have e3 : (m == -9223372036854775808) = false := by simpa using hm0
          have e4 : wrap64 (-m) = -m := w64_in _ (by have := G.out; omega)
          have HV : Hid (R = (-m, k)) := hidD (by
            have q := rMag_at G.out.1 G.out.2.1 RS.out
            rw [if_neg (by rintro (q | q); exact hkf q; exact hz (by rw [hc0] at q; simpa using q.1))] at q
            rw [List.drop_zero] at q
            rw [HR.out, numV_plus HH.out, q]
            simp only []
            rw [if_neg hm0, List.length_drop]
            congr 1
            have := G.out
            omega)
          clear hkf hc0 hz hm0 hf0
          go_wp2
          go_ret2
          rw [HV.out]
          refine ⟨?_, rfl⟩
          show Ending.returned (.tuple #[.int .i64 (wrap64 (-m)), .int .i64 (k : Nat)]) = _
          rw [e4]
      · have e1' : decide ((48 : Int) ≤ (c.toNat : Int)) = false := by simp; omega
        have RS : Hid (rdig 0 (s.drop 0) = some (m, s.drop k)) := RD.out.trans (rdig_stop (.inr ⟨c, hc, fun q => hlow q.1⟩))
        clear hc hlow hlt
        by_cases hkf : k = 0
        · have hk0 : ((k : Int) == 0) = true := by simp; omega
          have HV : Hid (R = (0, 0)) := hidD (by
            have q := rMag_at G.out.1 G.out.2.1 RS.out
            rw [if_pos (.inl hkf)] at q
            rw [List.drop_zero] at q
            rw [HR.out, numV_plus HH.out, q]
          )
          clear hf0 hkf
          go_wp2
          go_ret2
          rw [HV.out]
          exact ⟨rfl, rfl⟩
        obtain ⟨c0, hc0⟩ : ∃ c0, s[0]? = some c0 := ⟨_, List.getElem?_eq_getElem (by have := G.out; omega)⟩
        have hk0 : ((k : Int) == 0) = false := by simp; omega
        have hixf : ∀ W, (Instr.index 9 (.string x) (.int .i64 0)).run Tryz.prog W = .ok (.int .u8 (c0.toNat : Nat)) W := IX.out 0 c0 hc0
        by_cases hz : c0 = 48
        · subst hz
          change ∀ W, (Instr.index 9 (.string x) (.int .i64 0)).run Tryz.prog W = .ok (.int .u8 48) W at hixf
          by_cases h2 : 1 < k
          · have e2 : decide ((1 : Int) < (k : Int)) = true := by simp; omega
            have HV : Hid (R = (0, 0)) := hidD (by
              have q := rMag_at G.out.1 G.out.2.1 RS.out
              rw [if_pos (.inr ⟨hc0, h2⟩)] at q
              rw [List.drop_zero] at q
              rw [HR.out, numV_plus HH.out, q]
            )
            clear hkf hc0 h2 hf0
            go_wp2
            go_ret2
            rw [HV.out]
            exact ⟨rfl, rfl⟩
          · have e2 : decide ((1 : Int) < (k : Int)) = false := by simp; omega
            by_cases hm0 : m = -9223372036854775808
            · have e3 : (m == -9223372036854775808) = true := by simpa using hm0
              have HV : Hid (R = (0, 0)) := hidD (by
                have q := rMag_at G.out.1 G.out.2.1 RS.out
                rw [if_neg (by rintro (q | q); exact hkf q; exact h2 q.2)] at q
                rw [List.drop_zero] at q
                rw [HR.out, numV_plus HH.out, q]
                simp only []
                rw [if_pos hm0])
              clear hkf hc0 h2 hm0 hf0
              go_wp2
              go_ret2
              rw [HV.out]
              exact ⟨rfl, rfl⟩
            have e3 : (m == -9223372036854775808) = false := by simpa using hm0
            have e4 : wrap64 (-m) = -m := w64_in _ (by have := G.out; omega)
            have HV : Hid (R = (-m, k)) := hidD (by
              have q := rMag_at G.out.1 G.out.2.1 RS.out
              rw [if_neg (by rintro (q | q); exact hkf q; exact h2 q.2)] at q
              rw [List.drop_zero] at q
              rw [HR.out, numV_plus HH.out, q]
              simp only []
              rw [if_neg hm0, List.length_drop]
              congr 1
              have := G.out
              omega)
            clear hkf hc0 h2 hm0 hf0
            go_wp2
            go_ret2
            rw [HV.out]
            refine ⟨?_, rfl⟩
            show Ending.returned (.tuple #[.int .i64 (wrap64 (-m)), .int .i64 (k : Nat)]) = _
            rw [e4]
        have e1 : ((c0.toNat : Int) == 48) = false := by
          have : c0.toNat ≠ 48 := fun q => hz (UInt8.toNat_inj.1 q)
          simp; omega
        by_cases hm0 : m = -9223372036854775808
        · have e3 : (m == -9223372036854775808) = true := by simpa using hm0
          have HV : Hid (R = (0, 0)) := hidD (by
            have q := rMag_at G.out.1 G.out.2.1 RS.out
            rw [if_neg (by rintro (q | q); exact hkf q; exact hz (by rw [hc0] at q; simpa using q.1))] at q
            rw [List.drop_zero] at q
            rw [HR.out, numV_plus HH.out, q]
            simp only []
            rw [if_pos hm0])
          clear hkf hc0 hz hm0 hf0
          go_wp2
          go_ret2
          rw [HV.out]
          exact ⟨rfl, rfl⟩
        have e3 : (m == -9223372036854775808) = false := by simpa using hm0
        have e4 : wrap64 (-m) = -m := w64_in _ (by have := G.out; omega)
        have HV : Hid (R = (-m, k)) := hidD (by
          have q := rMag_at G.out.1 G.out.2.1 RS.out
          rw [if_neg (by rintro (q | q); exact hkf q; exact hz (by rw [hc0] at q; simpa using q.1))] at q
          rw [List.drop_zero] at q
          rw [HR.out, numV_plus HH.out, q]
          simp only []
          rw [if_neg hm0, List.length_drop]
          congr 1
          have := G.out
          omega)
        clear hkf hc0 hz hm0 hf0
        go_wp2
        go_ret2
        rw [HV.out]
        refine ⟨?_, rfl⟩
        show Ending.returned (.tuple #[.int .i64 (wrap64 (-m)), .int .i64 (k : Nat)]) = _
        rw [e4]
    · have hkl : k = s.length := by have := G.out; omega
      have hd1 : decide ((k : Int) < (x.size : Int)) = false := by rw [HSZ.out]; simp; omega
      have hd2 : decide (k < x.size) = false := by rw [HSZ.out]; simp; omega
      have RS : Hid (rdig 0 (s.drop 0) = some (m, s.drop k)) := RD.out.trans (rdig_stop (.inl hkl))
      clear hkl hlt
      by_cases hkf : k = 0
      · have hk0 : ((k : Int) == 0) = true := by simp; omega
        have HV : Hid (R = (0, 0)) := hidD (by
          have q := rMag_at G.out.1 G.out.2.1 RS.out
          rw [if_pos (.inl hkf)] at q
          rw [List.drop_zero] at q
          rw [HR.out, numV_plus HH.out, q]
        )
        clear hf0 hkf
        go_wp2
        go_ret2
        rw [HV.out]
        exact ⟨rfl, rfl⟩
      obtain ⟨c0, hc0⟩ : ∃ c0, s[0]? = some c0 := ⟨_, List.getElem?_eq_getElem (by have := G.out; omega)⟩
      have hk0 : ((k : Int) == 0) = false := by simp; omega
      have hixf : ∀ W, (Instr.index 9 (.string x) (.int .i64 0)).run Tryz.prog W = .ok (.int .u8 (c0.toNat : Nat)) W := IX.out 0 c0 hc0
      by_cases hz : c0 = 48
      · subst hz
        change ∀ W, (Instr.index 9 (.string x) (.int .i64 0)).run Tryz.prog W = .ok (.int .u8 48) W at hixf
        by_cases h2 : 1 < k
        · have e2 : decide ((1 : Int) < (k : Int)) = true := by simp; omega
          have HV : Hid (R = (0, 0)) := hidD (by
            have q := rMag_at G.out.1 G.out.2.1 RS.out
            rw [if_pos (.inr ⟨hc0, h2⟩)] at q
            rw [List.drop_zero] at q
            rw [HR.out, numV_plus HH.out, q]
          )
          clear hkf hc0 h2 hf0
          go_wp2
          go_ret2
          rw [HV.out]
          exact ⟨rfl, rfl⟩
        · have e2 : decide ((1 : Int) < (k : Int)) = false := by simp; omega
          by_cases hm0 : m = -9223372036854775808
          · have e3 : (m == -9223372036854775808) = true := by simpa using hm0
            have HV : Hid (R = (0, 0)) := hidD (by
              have q := rMag_at G.out.1 G.out.2.1 RS.out
              rw [if_neg (by rintro (q | q); exact hkf q; exact h2 q.2)] at q
              rw [List.drop_zero] at q
              rw [HR.out, numV_plus HH.out, q]
              simp only []
              rw [if_pos hm0])
            clear hkf hc0 h2 hm0 hf0
            go_wp2
            go_ret2
            rw [HV.out]
            exact ⟨rfl, rfl⟩
          have e3 : (m == -9223372036854775808) = false := by simpa using hm0
          have e4 : wrap64 (-m) = -m := w64_in _ (by have := G.out; omega)
          have HV : Hid (R = (-m, k)) := hidD (by
            have q := rMag_at G.out.1 G.out.2.1 RS.out
            rw [if_neg (by rintro (q | q); exact hkf q; exact h2 q.2)] at q
            rw [List.drop_zero] at q
            rw [HR.out, numV_plus HH.out, q]
            simp only []
            rw [if_neg hm0, List.length_drop]
            congr 1
            have := G.out
            omega)
          clear hkf hc0 h2 hm0 hf0
          go_wp2
          go_ret2
          rw [HV.out]
          refine ⟨?_, rfl⟩
          show Ending.returned (.tuple #[.int .i64 (wrap64 (-m)), .int .i64 (k : Nat)]) = _
          rw [e4]
      have e1 : ((c0.toNat : Int) == 48) = false := by
        have : c0.toNat ≠ 48 := fun q => hz (UInt8.toNat_inj.1 q)
        simp; omega
      by_cases hm0 : m = -9223372036854775808
      · have e3 : (m == -9223372036854775808) = true := by simpa using hm0
        have HV : Hid (R = (0, 0)) := hidD (by
          have q := rMag_at G.out.1 G.out.2.1 RS.out
          rw [if_neg (by rintro (q | q); exact hkf q; exact hz (by rw [hc0] at q; simpa using q.1))] at q
          rw [List.drop_zero] at q
          rw [HR.out, numV_plus HH.out, q]
          simp only []
          rw [if_pos hm0])
        clear hkf hc0 hz hm0 hf0
        go_wp2
        go_ret2
        rw [HV.out]
        exact ⟨rfl, rfl⟩
      have e3 : (m == -9223372036854775808) = false := by simpa using hm0
      have e4 : wrap64 (-m) = -m := w64_in _ (by have := G.out; omega)
      have HV : Hid (R = (-m, k)) := hidD (by
        have q := rMag_at G.out.1 G.out.2.1 RS.out
        rw [if_neg (by rintro (q | q); exact hkf q; exact hz (by rw [hc0] at q; simpa using q.1))] at q
        rw [List.drop_zero] at q
        rw [HR.out, numV_plus HH.out, q]
        simp only []
        rw [if_neg hm0, List.length_drop]
        congr 1
        have := G.out
        omega)
      clear hkf hc0 hz hm0 hf0
      go_wp2
      go_ret2
      rw [HV.out]
      refine ⟨?_, rfl⟩
      show Ending.returned (.tuple #[.int .i64 (wrap64 (-m)), .int .i64 (k : Nat)]) = _
      rw [e4]

set_option maxRecDepth 100000 in
set_option maxHeartbeats 8000000 in
theorem number_minus (s : B) (hh : s.head? = some 45) (hs : s.length ≤ 1000000) (w : World) : Calls Tryz.prog 91 #[.string (bs s)] w fun e w' => e = .returned (.tuple #[.int .i64 (numV s).1, .int .i64 ((numV s).2 : Nat)]) ∧ w' = w := by
  have HLE : Hid (1 ≤ s.length) := hidD (by cases s with | nil => simp at hh | cons c r => simp)
  have HSZ : Hid ((bs s).size = s.length) := bs_size s
  have HS : Hid (s.length ≤ 1000000) := hs
  have HH : Hid (s.head? = some 45) := hh
  have IX : Hid (∀ (k : Nat) (c : UInt8), s[k]? = some c → ∀ W, (Instr.index 9 (.string (bs s)) (.int .i64 (k : Nat))).run Tryz.prog W = .ok (.int .u8 (c.toNat : Nat)) W) := fun k c h W => ix_str s k c h W
  have B0 : Hid (NumR s 1 (s.length - 1) (.int .i64 0) (.int .i64 1) w w) := ⟨1, 0, rfl, rfl, rfl, Nat.le_refl _, HLE.out, rfl, by omega, by omega, rfl⟩
  obtain ⟨R, hR⟩ : ∃ R, R = numV s := ⟨_, rfl⟩
  rw [← hR]
  have HR : Hid (R = numV s) := hR
  have hd0 : decide ((0 : Int) < ((bs s).size : Int)) = true := by rw [bs_size]; have := HLE.out; simp; omega
  have hd0n : decide (0 < (bs s).size) = true := by rw [bs_size]; have := HLE.out; simp; omega
  have hix0 : ∀ W, (Instr.index 9 (.string (bs s)) (.int .i64 0)).run Tryz.prog W = .ok (.int .u8 45) W := ix_str s 0 45 (by rw [← List.head?_eq_getElem?]; exact hh)
  generalize bs s = x at *
  clear hs hh hR 
  go_enter Tryz.func91, Tryz.ntmps91
  go_wp2
  go_loopg [4, 5] (s.length - 1) (fun g vn vi wr => NumR s 1 g vn vi w wr)
  case atStart => exact B0.out
  case round =>
    obtain ⟨k, m, rfl, rfl, hg, hfk, hks, hrd, hm1, hm2, rfl⟩ := hrel
    have G : Hid (1 ≤ k ∧ k ≤ s.length ∧ s.length - k = gk ∧ -9223372036854775808 ≤ m ∧ m ≤ 0 ∧ s.length ≤ 1000000) := ⟨hfk, hks, hg, hm1, hm2, HS.out⟩
    have RD : Hid (rdig 0 (s.drop 1) = rdig m (s.drop k)) := hrd
    clear hg hfk hks hrd hm1 hm2 B0
    have hf0 : True := trivial
    by_cases hlt : k < s.length
    · obtain ⟨c, hc⟩ : ∃ c, s[k]? = some c := ⟨_, List.getElem?_eq_getElem hlt⟩
      have hix := IX.out k c hc
      have hd1 : decide ((k : Int) < (x.size : Int)) = true := by rw [HSZ.out]; simp; omega
      have hd2 : decide (k < x.size) = true := by rw [HSZ.out]; simp; omega
      by_cases hlow : 48 ≤ c.toNat
      · by_cases hhigh : c.toNat ≤ 57
        · have hdig : isDig c := ⟨hlow, hhigh⟩
          have hst := rdig_step (m := m) hc hdig
          have ST : Hid (rdig m (s.drop k) = if m < Int.tdiv (-9223372036854775808 + ((c.toNat - 48 : Nat) : Int)) 10 then none else rdig (10 * m - ((c.toNat - 48 : Nat) : Int)) (s.drop (k + 1))) := hst
          have hw3 : wrap64 ((k : Int) + 1) = ((k + 1 : Nat) : Int) := by have := G.out; simp [wrap64]; omega
          have TL := tdiv_low (c.toNat - 48) m (by omega)
          have HTL : Hid (m < Int.tdiv (-9223372036854775808 + ((c.toNat - 48 : Nat) : Int)) 10 ↔ 10 * m - ((c.toNat - 48 : Nat) : Int) < -9223372036854775808) := TL
          clear hst TL hc hdig
          have hcases : c.toNat = 48 ∨ c.toNat = 49 ∨ c.toNat = 50 ∨ c.toNat = 51 ∨ c.toNat = 52 ∨ c.toNat = 53 ∨ c.toNat = 54 ∨ c.toNat = 55 ∨ c.toNat = 56 ∨ c.toNat = 57 := by omega
          generalize c.toNat = v at *
          clear hlow hhigh
          rcases hcases with rfl | rfl | rfl | rfl | rfl | rfl | rfl | rfl | rfl | rfl
          · by_cases hsm : m < -922337203685477580
            · have e5 : decide (m < -922337203685477580) = true := by simpa using hsm
              have HN : Hid (R = (0, 0)) := hidD (by
                have q : rdig 0 (s.drop 1) = none := by rw [RD.out, ST.out, if_pos (show m < Int.tdiv (-9223372036854775808 + ((48 - 48 : Nat) : Int)) 10 from hsm)]
                have q2 : rMag (s.drop 1) = none := by unfold rMag; rw [q]
                rw [HR.out, numV_minus HH.out, q2])
              clear hsm hlt
              go_wp2
              go_ret2
              rw [HN.out]
              exact ⟨rfl, rfl⟩
            · have e5 : decide (m < -922337203685477580) = false := by simpa using hsm
              have hnl : ¬ (10 * m - 0 < -9223372036854775808) := fun q => hsm (HTL.out.2 q)
              have e6 : wrap64 (10 * m) = 10 * m := w64_in _ (by have := G.out; omega)
              have e7 : wrap64 (10 * m - 0) = 10 * m - 0 := w64_in _ (by have := G.out; omega)
              have GO : Hid (rdig 0 (s.drop 1) = rdig (10 * m - 0) (s.drop (k + 1)) ∧ -9223372036854775808 ≤ 10 * m - 0 ∧ k < s.length) := ⟨by rw [RD.out, ST.out, if_neg (show ¬ (m < Int.tdiv (-9223372036854775808 + ((48 - 48 : Nat) : Int)) 10) from hsm)]; rfl, by omega, hlt⟩
              clear hsm hnl hlt
              go_wp2
              go_roundg (s.length - (k + 1))
              case measure => have := G.out; have := GO.out.2.2; omega
              case rel => exact ⟨k + 1, 10 * m - 0, by simp [hw3], by simp [e6, e7], rfl, by have := G.out; omega, GO.out.2.2, GO.out.1, GO.out.2.1, by have := G.out; omega, rfl⟩
          · by_cases hsm : m < -922337203685477580
            · have e5 : decide (m < -922337203685477580) = true := by simpa using hsm
              have HN : Hid (R = (0, 0)) := hidD (by
                have q : rdig 0 (s.drop 1) = none := by rw [RD.out, ST.out, if_pos (show m < Int.tdiv (-9223372036854775808 + ((49 - 48 : Nat) : Int)) 10 from hsm)]
                have q2 : rMag (s.drop 1) = none := by unfold rMag; rw [q]
                rw [HR.out, numV_minus HH.out, q2])
              clear hsm hlt
              go_wp2
              go_ret2
              rw [HN.out]
              exact ⟨rfl, rfl⟩
            · have e5 : decide (m < -922337203685477580) = false := by simpa using hsm
              have hnl : ¬ (10 * m - 1 < -9223372036854775808) := fun q => hsm (HTL.out.2 q)
              have e6 : wrap64 (10 * m) = 10 * m := w64_in _ (by have := G.out; omega)
              have e7 : wrap64 (10 * m - 1) = 10 * m - 1 := w64_in _ (by have := G.out; omega)
              have GO : Hid (rdig 0 (s.drop 1) = rdig (10 * m - 1) (s.drop (k + 1)) ∧ -9223372036854775808 ≤ 10 * m - 1 ∧ k < s.length) := ⟨by rw [RD.out, ST.out, if_neg (show ¬ (m < Int.tdiv (-9223372036854775808 + ((49 - 48 : Nat) : Int)) 10) from hsm)]; rfl, by omega, hlt⟩
              clear hsm hnl hlt
              go_wp2
              go_roundg (s.length - (k + 1))
              case measure => have := G.out; have := GO.out.2.2; omega
              case rel => exact ⟨k + 1, 10 * m - 1, by simp [hw3], by simp [e6, e7], rfl, by have := G.out; omega, GO.out.2.2, GO.out.1, GO.out.2.1, by have := G.out; omega, rfl⟩
          · by_cases hsm : m < -922337203685477580
            · have e5 : decide (m < -922337203685477580) = true := by simpa using hsm
              have HN : Hid (R = (0, 0)) := hidD (by
                have q : rdig 0 (s.drop 1) = none := by rw [RD.out, ST.out, if_pos (show m < Int.tdiv (-9223372036854775808 + ((50 - 48 : Nat) : Int)) 10 from hsm)]
                have q2 : rMag (s.drop 1) = none := by unfold rMag; rw [q]
                rw [HR.out, numV_minus HH.out, q2])
              clear hsm hlt
              go_wp2
              go_ret2
              rw [HN.out]
              exact ⟨rfl, rfl⟩
            · have e5 : decide (m < -922337203685477580) = false := by simpa using hsm
              have hnl : ¬ (10 * m - 2 < -9223372036854775808) := fun q => hsm (HTL.out.2 q)
              have e6 : wrap64 (10 * m) = 10 * m := w64_in _ (by have := G.out; omega)
              have e7 : wrap64 (10 * m - 2) = 10 * m - 2 := w64_in _ (by have := G.out; omega)
              have GO : Hid (rdig 0 (s.drop 1) = rdig (10 * m - 2) (s.drop (k + 1)) ∧ -9223372036854775808 ≤ 10 * m - 2 ∧ k < s.length) := ⟨by rw [RD.out, ST.out, if_neg (show ¬ (m < Int.tdiv (-9223372036854775808 + ((50 - 48 : Nat) : Int)) 10) from hsm)]; rfl, by omega, hlt⟩
              clear hsm hnl hlt
              go_wp2
              go_roundg (s.length - (k + 1))
              case measure => have := G.out; have := GO.out.2.2; omega
              case rel => exact ⟨k + 1, 10 * m - 2, by simp [hw3], by simp [e6, e7], rfl, by have := G.out; omega, GO.out.2.2, GO.out.1, GO.out.2.1, by have := G.out; omega, rfl⟩
          · by_cases hsm : m < -922337203685477580
            · have e5 : decide (m < -922337203685477580) = true := by simpa using hsm
              have HN : Hid (R = (0, 0)) := hidD (by
                have q : rdig 0 (s.drop 1) = none := by rw [RD.out, ST.out, if_pos (show m < Int.tdiv (-9223372036854775808 + ((51 - 48 : Nat) : Int)) 10 from hsm)]
                have q2 : rMag (s.drop 1) = none := by unfold rMag; rw [q]
                rw [HR.out, numV_minus HH.out, q2])
              clear hsm hlt
              go_wp2
              go_ret2
              rw [HN.out]
              exact ⟨rfl, rfl⟩
            · have e5 : decide (m < -922337203685477580) = false := by simpa using hsm
              have hnl : ¬ (10 * m - 3 < -9223372036854775808) := fun q => hsm (HTL.out.2 q)
              have e6 : wrap64 (10 * m) = 10 * m := w64_in _ (by have := G.out; omega)
              have e7 : wrap64 (10 * m - 3) = 10 * m - 3 := w64_in _ (by have := G.out; omega)
              have GO : Hid (rdig 0 (s.drop 1) = rdig (10 * m - 3) (s.drop (k + 1)) ∧ -9223372036854775808 ≤ 10 * m - 3 ∧ k < s.length) := ⟨by rw [RD.out, ST.out, if_neg (show ¬ (m < Int.tdiv (-9223372036854775808 + ((51 - 48 : Nat) : Int)) 10) from hsm)]; rfl, by omega, hlt⟩
              clear hsm hnl hlt
              go_wp2
              go_roundg (s.length - (k + 1))
              case measure => have := G.out; have := GO.out.2.2; omega
              case rel => exact ⟨k + 1, 10 * m - 3, by simp [hw3], by simp [e6, e7], rfl, by have := G.out; omega, GO.out.2.2, GO.out.1, GO.out.2.1, by have := G.out; omega, rfl⟩
          · by_cases hsm : m < -922337203685477580
            · have e5 : decide (m < -922337203685477580) = true := by simpa using hsm
              have HN : Hid (R = (0, 0)) := hidD (by
                have q : rdig 0 (s.drop 1) = none := by rw [RD.out, ST.out, if_pos (show m < Int.tdiv (-9223372036854775808 + ((52 - 48 : Nat) : Int)) 10 from hsm)]
                have q2 : rMag (s.drop 1) = none := by unfold rMag; rw [q]
                rw [HR.out, numV_minus HH.out, q2])
              clear hsm hlt
              go_wp2
              go_ret2
              rw [HN.out]
              exact ⟨rfl, rfl⟩
            · have e5 : decide (m < -922337203685477580) = false := by simpa using hsm
              have hnl : ¬ (10 * m - 4 < -9223372036854775808) := fun q => hsm (HTL.out.2 q)
              have e6 : wrap64 (10 * m) = 10 * m := w64_in _ (by have := G.out; omega)
              have e7 : wrap64 (10 * m - 4) = 10 * m - 4 := w64_in _ (by have := G.out; omega)
              have GO : Hid (rdig 0 (s.drop 1) = rdig (10 * m - 4) (s.drop (k + 1)) ∧ -9223372036854775808 ≤ 10 * m - 4 ∧ k < s.length) := ⟨by rw [RD.out, ST.out, if_neg (show ¬ (m < Int.tdiv (-9223372036854775808 + ((52 - 48 : Nat) : Int)) 10) from hsm)]; rfl, by omega, hlt⟩
              clear hsm hnl hlt
              go_wp2
              go_roundg (s.length - (k + 1))
              case measure => have := G.out; have := GO.out.2.2; omega
              case rel => exact ⟨k + 1, 10 * m - 4, by simp [hw3], by simp [e6, e7], rfl, by have := G.out; omega, GO.out.2.2, GO.out.1, GO.out.2.1, by have := G.out; omega, rfl⟩
          · by_cases hsm : m < -922337203685477580
            · have e5 : decide (m < -922337203685477580) = true := by simpa using hsm
              have HN : Hid (R = (0, 0)) := hidD (by
                have q : rdig 0 (s.drop 1) = none := by rw [RD.out, ST.out, if_pos (show m < Int.tdiv (-9223372036854775808 + ((53 - 48 : Nat) : Int)) 10 from hsm)]
                have q2 : rMag (s.drop 1) = none := by unfold rMag; rw [q]
                rw [HR.out, numV_minus HH.out, q2])
              clear hsm hlt
              go_wp2
              go_ret2
              rw [HN.out]
              exact ⟨rfl, rfl⟩
            · have e5 : decide (m < -922337203685477580) = false := by simpa using hsm
              have hnl : ¬ (10 * m - 5 < -9223372036854775808) := fun q => hsm (HTL.out.2 q)
              have e6 : wrap64 (10 * m) = 10 * m := w64_in _ (by have := G.out; omega)
              have e7 : wrap64 (10 * m - 5) = 10 * m - 5 := w64_in _ (by have := G.out; omega)
              have GO : Hid (rdig 0 (s.drop 1) = rdig (10 * m - 5) (s.drop (k + 1)) ∧ -9223372036854775808 ≤ 10 * m - 5 ∧ k < s.length) := ⟨by rw [RD.out, ST.out, if_neg (show ¬ (m < Int.tdiv (-9223372036854775808 + ((53 - 48 : Nat) : Int)) 10) from hsm)]; rfl, by omega, hlt⟩
              clear hsm hnl hlt
              go_wp2
              go_roundg (s.length - (k + 1))
              case measure => have := G.out; have := GO.out.2.2; omega
              case rel => exact ⟨k + 1, 10 * m - 5, by simp [hw3], by simp [e6, e7], rfl, by have := G.out; omega, GO.out.2.2, GO.out.1, GO.out.2.1, by have := G.out; omega, rfl⟩
          · by_cases hsm : m < -922337203685477580
            · have e5 : decide (m < -922337203685477580) = true := by simpa using hsm
              have HN : Hid (R = (0, 0)) := hidD (by
                have q : rdig 0 (s.drop 1) = none := by rw [RD.out, ST.out, if_pos (show m < Int.tdiv (-9223372036854775808 + ((54 - 48 : Nat) : Int)) 10 from hsm)]
                have q2 : rMag (s.drop 1) = none := by unfold rMag; rw [q]
                rw [HR.out, numV_minus HH.out, q2])
              clear hsm hlt
              go_wp2
              go_ret2
              rw [HN.out]
              exact ⟨rfl, rfl⟩
            · have e5 : decide (m < -922337203685477580) = false := by simpa using hsm
              have hnl : ¬ (10 * m - 6 < -9223372036854775808) := fun q => hsm (HTL.out.2 q)
              have e6 : wrap64 (10 * m) = 10 * m := w64_in _ (by have := G.out; omega)
              have e7 : wrap64 (10 * m - 6) = 10 * m - 6 := w64_in _ (by have := G.out; omega)
              have GO : Hid (rdig 0 (s.drop 1) = rdig (10 * m - 6) (s.drop (k + 1)) ∧ -9223372036854775808 ≤ 10 * m - 6 ∧ k < s.length) := ⟨by rw [RD.out, ST.out, if_neg (show ¬ (m < Int.tdiv (-9223372036854775808 + ((54 - 48 : Nat) : Int)) 10) from hsm)]; rfl, by omega, hlt⟩
              clear hsm hnl hlt
              go_wp2
              go_roundg (s.length - (k + 1))
              case measure => have := G.out; have := GO.out.2.2; omega
              case rel => exact ⟨k + 1, 10 * m - 6, by simp [hw3], by simp [e6, e7], rfl, by have := G.out; omega, GO.out.2.2, GO.out.1, GO.out.2.1, by have := G.out; omega, rfl⟩
          · by_cases hsm : m < -922337203685477580
            · have e5 : decide (m < -922337203685477580) = true := by simpa using hsm
              have HN : Hid (R = (0, 0)) := hidD (by
                have q : rdig 0 (s.drop 1) = none := by rw [RD.out, ST.out, if_pos (show m < Int.tdiv (-9223372036854775808 + ((55 - 48 : Nat) : Int)) 10 from hsm)]
                have q2 : rMag (s.drop 1) = none := by unfold rMag; rw [q]
                rw [HR.out, numV_minus HH.out, q2])
              clear hsm hlt
              go_wp2
              go_ret2
              rw [HN.out]
              exact ⟨rfl, rfl⟩
            · have e5 : decide (m < -922337203685477580) = false := by simpa using hsm
              have hnl : ¬ (10 * m - 7 < -9223372036854775808) := fun q => hsm (HTL.out.2 q)
              have e6 : wrap64 (10 * m) = 10 * m := w64_in _ (by have := G.out; omega)
              have e7 : wrap64 (10 * m - 7) = 10 * m - 7 := w64_in _ (by have := G.out; omega)
              have GO : Hid (rdig 0 (s.drop 1) = rdig (10 * m - 7) (s.drop (k + 1)) ∧ -9223372036854775808 ≤ 10 * m - 7 ∧ k < s.length) := ⟨by rw [RD.out, ST.out, if_neg (show ¬ (m < Int.tdiv (-9223372036854775808 + ((55 - 48 : Nat) : Int)) 10) from hsm)]; rfl, by omega, hlt⟩
              clear hsm hnl hlt
              go_wp2
              go_roundg (s.length - (k + 1))
              case measure => have := G.out; have := GO.out.2.2; omega
              case rel => exact ⟨k + 1, 10 * m - 7, by simp [hw3], by simp [e6, e7], rfl, by have := G.out; omega, GO.out.2.2, GO.out.1, GO.out.2.1, by have := G.out; omega, rfl⟩
          · by_cases hsm : m < -922337203685477580
            · have e5 : decide (m < -922337203685477580) = true := by simpa using hsm
              have HN : Hid (R = (0, 0)) := hidD (by
                have q : rdig 0 (s.drop 1) = none := by rw [RD.out, ST.out, if_pos (show m < Int.tdiv (-9223372036854775808 + ((56 - 48 : Nat) : Int)) 10 from hsm)]
                have q2 : rMag (s.drop 1) = none := by unfold rMag; rw [q]
                rw [HR.out, numV_minus HH.out, q2])
              clear hsm hlt
              go_wp2
              go_ret2
              rw [HN.out]
              exact ⟨rfl, rfl⟩
            · have e5 : decide (m < -922337203685477580) = false := by simpa using hsm
              have hnl : ¬ (10 * m - 8 < -9223372036854775808) := fun q => hsm (HTL.out.2 q)
              have e6 : wrap64 (10 * m) = 10 * m := w64_in _ (by have := G.out; omega)
              have e7 : wrap64 (10 * m - 8) = 10 * m - 8 := w64_in _ (by have := G.out; omega)
              have GO : Hid (rdig 0 (s.drop 1) = rdig (10 * m - 8) (s.drop (k + 1)) ∧ -9223372036854775808 ≤ 10 * m - 8 ∧ k < s.length) := ⟨by rw [RD.out, ST.out, if_neg (show ¬ (m < Int.tdiv (-9223372036854775808 + ((56 - 48 : Nat) : Int)) 10) from hsm)]; rfl, by omega, hlt⟩
              clear hsm hnl hlt
              go_wp2
              go_roundg (s.length - (k + 1))
              case measure => have := G.out; have := GO.out.2.2; omega
              case rel => exact ⟨k + 1, 10 * m - 8, by simp [hw3], by simp [e6, e7], rfl, by have := G.out; omega, GO.out.2.2, GO.out.1, GO.out.2.1, by have := G.out; omega, rfl⟩
          · by_cases hsm : m < -922337203685477579
            · have e5 : decide (m < -922337203685477579) = true := by simpa using hsm
              have HN : Hid (R = (0, 0)) := hidD (by
                have q : rdig 0 (s.drop 1) = none := by rw [RD.out, ST.out, if_pos (show m < Int.tdiv (-9223372036854775808 + ((57 - 48 : Nat) : Int)) 10 from hsm)]
                have q2 : rMag (s.drop 1) = none := by unfold rMag; rw [q]
                rw [HR.out, numV_minus HH.out, q2])
              clear hsm hlt
              go_wp2
              go_ret2
              rw [HN.out]
              exact ⟨rfl, rfl⟩
            · have e5 : decide (m < -922337203685477579) = false := by simpa using hsm
              have hnl : ¬ (10 * m - 9 < -9223372036854775808) := fun q => hsm (HTL.out.2 q)
              have e6 : wrap64 (10 * m) = 10 * m := w64_in _ (by have := G.out; omega)
              have e7 : wrap64 (10 * m - 9) = 10 * m - 9 := w64_in _ (by have := G.out; omega)
              have GO : Hid (rdig 0 (s.drop 1) = rdig (10 * m - 9) (s.drop (k + 1)) ∧ -9223372036854775808 ≤ 10 * m - 9 ∧ k < s.length) := ⟨by rw [RD.out, ST.out, if_neg (show ¬ (m < Int.tdiv (-9223372036854775808 + ((57 - 48 : Nat) : Int)) 10) from hsm)]; rfl, by omega, hlt⟩
              clear hsm hnl hlt
              go_wp2
              go_roundg (s.length - (k + 1))
              case measure => have := G.out; have := GO.out.2.2; omega
              case rel => exact ⟨k + 1, 10 * m - 9, by simp [hw3], by simp [e6, e7], rfl, by have := G.out; omega, GO.out.2.2, GO.out.1, GO.out.2.1, by have := G.out; omega, rfl⟩
        · have e1' : decide ((48 : Int) ≤ (c.toNat : Int)) = true := by simp; omega
          have e2' : decide ((c.toNat : Int) ≤ 57) = false := by simp; omega
          have RS : Hid (rdig 0 (s.drop 1) = some (m, s.drop k)) := RD.out.trans (rdig_stop (.inr ⟨c, hc, fun q => hhigh q.2⟩))
          clear hc hlow hhigh hlt
          by_cases hkf : k = 1
          · have hk0 : ((k : Int) == 1) = true := by simp; omega
            have HV : Hid (R = (0, 0)) := hidD (by
              have q := rMag_at G.out.1 G.out.2.1 RS.out
              rw [if_pos (.inl hkf)] at q
              rw [HR.out, numV_minus HH.out, q]
            )
            clear hf0 hkf
            go_wp2
            go_ret2
            rw [HV.out]
            exact ⟨rfl, rfl⟩
          obtain ⟨c0, hc0⟩ : ∃ c0, s[1]? = some c0 := ⟨_, List.getElem?_eq_getElem (by have := G.out; omega)⟩
          have hk0 : ((k : Int) == 1) = false := by simp; omega
          have hixf : ∀ W, (Instr.index 9 (.string x) (.int .i64 1)).run Tryz.prog W = .ok (.int .u8 (c0.toNat : Nat)) W := IX.out 1 c0 hc0
          by_cases hz : c0 = 48
          · subst hz
            change ∀ W, (Instr.index 9 (.string x) (.int .i64 1)).run Tryz.prog W = .ok (.int .u8 48) W at hixf
            by_cases h2 : 2 < k
            · have e2 : decide ((2 : Int) < (k : Int)) = true := by simp; omega
              have HV : Hid (R = (0, 0)) := hidD (by
                have q := rMag_at G.out.1 G.out.2.1 RS.out
                rw [if_pos (.inr ⟨hc0, h2⟩)] at q
                rw [HR.out, numV_minus HH.out, q]
              )
              clear hkf hc0 h2 hf0
              go_wp2
              go_ret2
              rw [HV.out]
              exact ⟨rfl, rfl⟩
            · have e2 : decide ((2 : Int) < (k : Int)) = false := by simp; omega
              by_cases hm0 : m = 0
              · subst hm0
                have HV : Hid (R = (0, 0)) := hidD (by
                  have q := rMag_at G.out.1 G.out.2.1 RS.out
                  rw [if_neg (by rintro (q | q); exact hkf q; exact h2 q.2)] at q
                  rw [HR.out, numV_minus HH.out, q]
                  simp)
                clear hkf hc0 h2 hf0
                go_wp2
                go_ret2
                rw [HV.out]
                exact ⟨rfl, rfl⟩
              have e3 : (m == 0) = false := by simpa using hm0
              have HV : Hid (R = (m, k)) := hidD (by
                have q := rMag_at G.out.1 G.out.2.1 RS.out
                rw [if_neg (by rintro (q | q); exact hkf q; exact h2 q.2)] at q
                rw [HR.out, numV_minus HH.out, q]
                simp only []
                rw [if_neg hm0, List.length_drop]
                congr 1
                have := G.out
                omega)
              clear hkf hc0 h2 hm0 hf0
              go_wp2
              go_ret2
              rw [HV.out]
              exact ⟨rfl, rfl⟩
          have e1 : ((c0.toNat : Int) == 48) = false := by
            have : c0.toNat ≠ 48 := fun q => hz (UInt8.toNat_inj.1 q)
            simp; omega
          by_cases hm0 : m = 0
          · subst hm0
            have HV : Hid (R = (0, 0)) := hidD (by
              have q := rMag_at G.out.1 G.out.2.1 RS.out
              rw [if_neg (by rintro (q | q); exact hkf q; exact hz (by rw [hc0] at q; simpa using q.1))] at q
              rw [HR.out, numV_minus HH.out, q]
              simp)
            clear hkf hc0 hz hf0
            go_wp2
            go_ret2
            rw [HV.out]
            exact ⟨rfl, rfl⟩
          have e3 : (m == 0) = false := by simpa using hm0
          have HV : Hid (R = (m, k)) := hidD (by
            have q := rMag_at G.out.1 G.out.2.1 RS.out
            rw [if_neg (by rintro (q | q); exact hkf q; exact hz (by rw [hc0] at q; simpa using q.1))] at q
            rw [HR.out, numV_minus HH.out, q]
            simp only []
            rw [if_neg hm0, List.length_drop]
            congr 1
            have := G.out
            omega)
          clear hkf hc0 hz hm0 hf0
          go_wp2
          go_ret2
          rw [HV.out]
          exact ⟨rfl, rfl⟩
      · have e1' : decide ((48 : Int) ≤ (c.toNat : Int)) = false := by simp; omega
        have RS : Hid (rdig 0 (s.drop 1) = some (m, s.drop k)) := RD.out.trans (rdig_stop (.inr ⟨c, hc, fun q => hlow q.1⟩))
        clear hc hlow hlt
        by_cases hkf : k = 1
        · have hk0 : ((k : Int) == 1) = true := by simp; omega
          have HV : Hid (R = (0, 0)) := hidD (by
            have q := rMag_at G.out.1 G.out.2.1 RS.out
            rw [if_pos (.inl hkf)] at q
            rw [HR.out, numV_minus HH.out, q]
          )
          clear hf0 hkf
          go_wp2
          go_ret2
          rw [HV.out]
          exact ⟨rfl, rfl⟩
        obtain ⟨c0, hc0⟩ : ∃ c0, s[1]? = some c0 := ⟨_, List.getElem?_eq_getElem (by have := G.out; omega)⟩
        have hk0 : ((k : Int) == 1) = false := by simp; omega
        have hixf : ∀ W, (Instr.index 9 (.string x) (.int .i64 1)).run Tryz.prog W = .ok (.int .u8 (c0.toNat : Nat)) W := IX.out 1 c0 hc0
        by_cases hz : c0 = 48
        · subst hz
          change ∀ W, (Instr.index 9 (.string x) (.int .i64 1)).run Tryz.prog W = .ok (.int .u8 48) W at hixf
          by_cases h2 : 2 < k
          · have e2 : decide ((2 : Int) < (k : Int)) = true := by simp; omega
            have HV : Hid (R = (0, 0)) := hidD (by
              have q := rMag_at G.out.1 G.out.2.1 RS.out
              rw [if_pos (.inr ⟨hc0, h2⟩)] at q
              rw [HR.out, numV_minus HH.out, q]
            )
            clear hkf hc0 h2 hf0
            go_wp2
            go_ret2
            rw [HV.out]
            exact ⟨rfl, rfl⟩
          · have e2 : decide ((2 : Int) < (k : Int)) = false := by simp; omega
            by_cases hm0 : m = 0
            · subst hm0
              have HV : Hid (R = (0, 0)) := hidD (by
                have q := rMag_at G.out.1 G.out.2.1 RS.out
                rw [if_neg (by rintro (q | q); exact hkf q; exact h2 q.2)] at q
                rw [HR.out, numV_minus HH.out, q]
                simp)
              clear hkf hc0 h2 hf0
              go_wp2
              go_ret2
              rw [HV.out]
              exact ⟨rfl, rfl⟩
            have e3 : (m == 0) = false := by simpa using hm0
            have HV : Hid (R = (m, k)) := hidD (by
              have q := rMag_at G.out.1 G.out.2.1 RS.out
              rw [if_neg (by rintro (q | q); exact hkf q; exact h2 q.2)] at q
              rw [HR.out, numV_minus HH.out, q]
              simp only []
              rw [if_neg hm0, List.length_drop]
              congr 1
              have := G.out
              omega)
            clear hkf hc0 h2 hm0 hf0
            go_wp2
            go_ret2
            rw [HV.out]
            exact ⟨rfl, rfl⟩
        have e1 : ((c0.toNat : Int) == 48) = false := by
          have : c0.toNat ≠ 48 := fun q => hz (UInt8.toNat_inj.1 q)
          simp; omega
        by_cases hm0 : m = 0
        · subst hm0
          have HV : Hid (R = (0, 0)) := hidD (by
            have q := rMag_at G.out.1 G.out.2.1 RS.out
            rw [if_neg (by rintro (q | q); exact hkf q; exact hz (by rw [hc0] at q; simpa using q.1))] at q
            rw [HR.out, numV_minus HH.out, q]
            simp)
          clear hkf hc0 hz hf0
          go_wp2
          go_ret2
          rw [HV.out]
          exact ⟨rfl, rfl⟩
        have e3 : (m == 0) = false := by simpa using hm0
        have HV : Hid (R = (m, k)) := hidD (by
          have q := rMag_at G.out.1 G.out.2.1 RS.out
          rw [if_neg (by rintro (q | q); exact hkf q; exact hz (by rw [hc0] at q; simpa using q.1))] at q
          rw [HR.out, numV_minus HH.out, q]
          simp only []
          rw [if_neg hm0, List.length_drop]
          congr 1
          have := G.out
          omega)
        clear hkf hc0 hz hm0 hf0
        go_wp2
        go_ret2
        rw [HV.out]
        exact ⟨rfl, rfl⟩
    · have hkl : k = s.length := by have := G.out; omega
      have hd1 : decide ((k : Int) < (x.size : Int)) = false := by rw [HSZ.out]; simp; omega
      have hd2 : decide (k < x.size) = false := by rw [HSZ.out]; simp; omega
      have RS : Hid (rdig 0 (s.drop 1) = some (m, s.drop k)) := RD.out.trans (rdig_stop (.inl hkl))
      clear hkl hlt
      by_cases hkf : k = 1
      · have hk0 : ((k : Int) == 1) = true := by simp; omega
        have HV : Hid (R = (0, 0)) := hidD (by
          have q := rMag_at G.out.1 G.out.2.1 RS.out
          rw [if_pos (.inl hkf)] at q
          rw [HR.out, numV_minus HH.out, q]
        )
        clear hf0 hkf
        go_wp2
        go_ret2
        rw [HV.out]
        exact ⟨rfl, rfl⟩
      obtain ⟨c0, hc0⟩ : ∃ c0, s[1]? = some c0 := ⟨_, List.getElem?_eq_getElem (by have := G.out; omega)⟩
      have hk0 : ((k : Int) == 1) = false := by simp; omega
      have hixf : ∀ W, (Instr.index 9 (.string x) (.int .i64 1)).run Tryz.prog W = .ok (.int .u8 (c0.toNat : Nat)) W := IX.out 1 c0 hc0
      by_cases hz : c0 = 48
      · subst hz
        change ∀ W, (Instr.index 9 (.string x) (.int .i64 1)).run Tryz.prog W = .ok (.int .u8 48) W at hixf
        by_cases h2 : 2 < k
        · have e2 : decide ((2 : Int) < (k : Int)) = true := by simp; omega
          have HV : Hid (R = (0, 0)) := hidD (by
            have q := rMag_at G.out.1 G.out.2.1 RS.out
            rw [if_pos (.inr ⟨hc0, h2⟩)] at q
            rw [HR.out, numV_minus HH.out, q]
          )
          clear hkf hc0 h2 hf0
          go_wp2
          go_ret2
          rw [HV.out]
          exact ⟨rfl, rfl⟩
        · have e2 : decide ((2 : Int) < (k : Int)) = false := by simp; omega
          by_cases hm0 : m = 0
          · subst hm0
            have HV : Hid (R = (0, 0)) := hidD (by
              have q := rMag_at G.out.1 G.out.2.1 RS.out
              rw [if_neg (by rintro (q | q); exact hkf q; exact h2 q.2)] at q
              rw [HR.out, numV_minus HH.out, q]
              simp)
            clear hkf hc0 h2 hf0
            go_wp2
            go_ret2
            rw [HV.out]
            exact ⟨rfl, rfl⟩
          have e3 : (m == 0) = false := by simpa using hm0
          have HV : Hid (R = (m, k)) := hidD (by
            have q := rMag_at G.out.1 G.out.2.1 RS.out
            rw [if_neg (by rintro (q | q); exact hkf q; exact h2 q.2)] at q
            rw [HR.out, numV_minus HH.out, q]
            simp only []
            rw [if_neg hm0, List.length_drop]
            congr 1
            have := G.out
            omega)
          clear hkf hc0 h2 hm0 hf0
          go_wp2
          go_ret2
          rw [HV.out]
          exact ⟨rfl, rfl⟩
      have e1 : ((c0.toNat : Int) == 48) = false := by
        have : c0.toNat ≠ 48 := fun q => hz (UInt8.toNat_inj.1 q)
        simp; omega
      by_cases hm0 : m = 0
      · subst hm0
        have HV : Hid (R = (0, 0)) := hidD (by
          have q := rMag_at G.out.1 G.out.2.1 RS.out
          rw [if_neg (by rintro (q | q); exact hkf q; exact hz (by rw [hc0] at q; simpa using q.1))] at q
          rw [HR.out, numV_minus HH.out, q]
          simp)
        clear hkf hc0 hz hf0
        go_wp2
        go_ret2
        rw [HV.out]
        exact ⟨rfl, rfl⟩
      have e3 : (m == 0) = false := by simpa using hm0
      have HV : Hid (R = (m, k)) := hidD (by
        have q := rMag_at G.out.1 G.out.2.1 RS.out
        rw [if_neg (by rintro (q | q); exact hkf q; exact hz (by rw [hc0] at q; simpa using q.1))] at q
        rw [HR.out, numV_minus HH.out, q]
        simp only []
        rw [if_neg hm0, List.length_drop]
        congr 1
        have := G.out
        omega)
      clear hkf hc0 hz hm0 hf0
      go_wp2
      go_ret2
      rw [HV.out]
      exact ⟨rfl, rfl⟩

theorem number_doc (s : B) (hs : s.length ≤ 1000000) (w : World) : Calls Tryz.prog 91 #[.string (bs s)] w fun e w' => e = .returned (.tuple #[.int .i64 (numV s).1, .int .i64 ((numV s).2 : Nat)]) ∧ w' = w := by
  by_cases hh : s.head? = some 45
  · exact number_minus s hh hs w
  · cases h0 : s with
    | nil => rw [← h0]; exact number_nil s h0 hh hs w
    | cons c r => rw [← h0]; exact number_plus s c r h0 hh hs w
end Go.Proofs.YteblabpplaaddaaGreatDoor
