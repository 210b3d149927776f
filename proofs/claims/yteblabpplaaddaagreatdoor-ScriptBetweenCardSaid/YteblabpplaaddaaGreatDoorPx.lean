/- ParseUint at base sixteen, eight bits, two bytes: the walk. -/
import Derived.Test.YteblabpplaaddaaGreatDoorTb
import Derived.Shelf.Strconv.ToError
import Derived.Lib.Hide
import Derived.Laws.Strings3
import Derived.Laws.Closers25
import Derived.Laws.Closers25b
import Derived.BigCall
import Derived.BigGuard
set_option linter.unusedVariables false
set_option linter.unusedSimpArgs false
namespace Go.Proofs.YteblabpplaaddaaGreatDoor
open Go.RowKit Go.Mine Go.Mine.Sc

/-- a digit of base sixteen, small or great -/
def hexd (n : Nat) : Option Nat := if 48 ≤ n ∧ n ≤ 57 then some (n - 48) else if 97 ≤ n ∧ n ≤ 102 then some (n - 87) else if 65 ≤ n ∧ n ≤ 70 then some (n - 55) else none
def hexM (acc : Nat) : B → Option Nat
  | [] => some acc
  | c :: r => match hexd c.toNat with | none => none | some d => hexM (16 * acc + d) r

theorem or32 : ∀ n : Fin 256, bits .or .u8 (n.val : Int) 32 = ((n.val ||| 32 : Nat) : Int) := by decide +kernel
theorem or_at (c : UInt8) : bits .or .u8 (c.toNat : Int) 32 = ((c.toNat ||| 32 : Nat) : Int) := or32 ⟨c.toNat, c.toNat_lt⟩
theorem low_facts : ∀ n : Fin 256, (97 ≤ n.val ∧ n.val ≤ 102 → (n.val ||| 32) = n.val) ∧ (65 ≤ n.val ∧ n.val ≤ 70 → (n.val ||| 32) = n.val + 32) ∧
    (hexd n.val = none → (n.val ||| 32) < 97 ∨ 122 < (n.val ||| 32) ∨ (103 ≤ (n.val ||| 32) ∧ (n.val ||| 32) ≤ 122)) := by decide +kernel

theorem lower_any (c : UInt8) (w : World) : Calls Tryz.prog 123 #[.int .u8 (c.toNat : Nat)] w fun e w' => e = .returned (.int .u8 ((c.toNat ||| 32 : Nat) : Int)) ∧ w' = w := by
  have h := or_at c
  generalize c.toNat = m at *
  go_enter Tryz.func123, Tryz.ntmps123
  go_wp2
  go_ret
  exact ⟨rfl, rfl⟩

theorem lower95 (w : World) : Calls Tryz.prog 123 #[.int .u8 95] w fun e w' => e = .returned (.int .u8 127) ∧ w' = w := lower_any 95 w

/-- what ParseUint answers -/
def pu16 : Option Nat → Value
  | some v => .tuple #[.int .u64 (v : Nat), .nilIface]
  | none => .tuple #[.int .u64 0, .iface 142 (.int .i64 2)]

set_option maxHeartbeats 8000000 in
set_option maxRecDepth 100000 in
theorem parse16 (t : B) (h2 : t.length = 2) (w : World) :
    Calls Tryz.prog 112 #[.string (bs t), .int .i64 16, .int .i64 8] w fun e w' => e = .returned (pu16 (hexM 0 t)) ∧ Turned (fun _ => False) w w' := by
  have hemp : (bs t).toList.isEmpty = false := by
    rw [ByteArray.toList_eq, bs_list]
    cases t with
    | nil => simp at h2
    | cons c r => rfl
  have hcv := Lib.run_convert_string_bytes (P := Tryz.prog) w 9 26 5 (bs t) (u := .string) Tryz.underlying9 Tryz.underlying26 Tryz.underlying5
  have hsz : (bs t).size = 2 := by rw [bs_size]; exact h2
  have hB : ∀ j, j < 2 → (Lib.bytesWorld w 5 (bs t)).cell? ⟨w.heap.size, j, none⟩ = some (.int .u8 (t.getD j 0).toNat) := fun j hj => by
    have := Lib.bytesWorld_cell w 5 (bs t) j (by rw [hsz]; exact hj)
    rw [bs_list] at this
    exact this
  have TT : Hid (Turned (fun _ => False) w (Lib.bytesWorld w 5 (bs t))) := (⟨rfl, rfl, rfl, by rw [Lib.bytesWorld_size]; omega, fun j hj _ => Lib.bytesWorld_at_old w _ _ j hj⟩ : Turned (fun _ => False) w (Lib.bytesWorld w 5 (bs t)))
  have hmv : IntKind.u64.wrap (IntKind.u64.wrap 256 - 1) = 255 := by
    rw [IntKind.wrap_u64, IntKind.wrap_u64]
    decide
  rw [hsz] at hcv
  generalize Lib.bytesWorld w 5 (bs t) = W1 at *
  generalize grownCap w 2 0 5 = cap at *
  clear hsz
  generalize bs t = x at *
  go_enter Tryz.func112, Tryz.ntmps112
  go_wp2
  go_loop [12, 13, 101] (fun vu vn vi => ∃ (k acc : Nat) (a : Int), vu = .bool false ∧ vn = .int .u64 a ∧ vi = .int .i64 k ∧ k ≤ 2 ∧ Hid (a = (acc : Int) ∧ acc * (if k = 0 then 256 else if k = 1 then 16 else 1) ≤ 255 ∧ hexM 0 t = hexM acc (t.drop k)))
    (fun _ _ vi => 2 - (intOf vi).toNat)
  case atStart => exact ⟨0, 0, 0, rfl, rfl, rfl, by omega, rfl, by simp, rfl⟩
  case round =>
    obtain ⟨k, acc, a, rfl, rfl, rfl, hk, hh⟩ := hrel
    obtain ⟨ha, hacc, hdec⟩ := hh.out
    clear hh
    by_cases hkn : k < 2
    · have hc := hB k hkn
      have hdrop : t.drop k = t[k]'(by omega) :: t.drop (k + 1) := List.drop_eq_getElem_cons (by omega)
      have hget : t.getD k 0 = t[k]'(by omega) := by simp [List.getD, List.getElem?_eq_getElem (show k < t.length by omega)]
      rw [hdrop] at hdec
      rw [hget] at hc
      generalize t[k]'(by omega) = c at hc hdec
      have hc256 : c.toNat < 256 := c.toNat_lt
      have hlow := low_facts ⟨c.toNat, c.toNat_lt⟩
      simp only [] at hlow
      obtain ⟨l1, l2, l3⟩ := hlow
      have hlc := lower_any c
      have hacc2 : acc ≤ 15 := by
        rcases (by omega : k = 0 ∨ k = 1) with rfl | rfl
        · simp at hacc; omega
        · simp at hacc; omega
      have a0 : 0 ≤ a := by omega
      have a1 : a ≤ 15 := by omega
      have hbnd : ∀ d, d ≤ 15 → (16 * acc + d) * (if k + 1 = 0 then 256 else if k + 1 = 1 then 16 else 1) ≤ 255 := by
        intro d hd
        rcases (by omega : k = 0 ∨ k = 1) with rfl | rfl
        · have : acc = 0 := by simp at hacc; omega
          subst this; simp; omega
        · simp; omega
      have HBD : Hid (∀ d, d ≤ 15 → (16 * acc + d) * (if k + 1 = 0 then 256 else if k + 1 = 1 then 16 else 1) ≤ 255) := hbnd
      clear hB hdrop hget hbnd hacc
      generalize hm : c.toNat = m at *
      cases hq : hexd m with
      | none =>
        have hF : hexM acc (c :: t.drop (k + 1)) = none := by simp [hexM, hm, hq]
        rw [hF] at hdec
        have HD : Hid (hexM 0 t = none) := hdec
        have hno := l3 hq
        have hnd : ¬ (48 ≤ m ∧ m ≤ 57) := by
          intro q; unfold hexd at hq; rw [if_pos q] at hq; simp at hq
        generalize hlm : (m ||| 32) = lm at *
        have hlm256 : lm < 256 := by rw [← hlm]; exact Nat.or_lt_two_pow (n := 8) (by omega) (by omega)
        clear hdec hF l1 l2 l3 hq ha hacc2 HBD
        rcases hno with hno | hno | hno
        all_goals
          rcases (by omega : m < 48 ∨ 57 < m) with hd1 | hd1
          all_goals
            clear hnd
            go_wp2_with (first | (go_at_call 123; (with_reducible refine (hlc _).mono ?_); rintro e w1 ⟨rfl, rfl⟩) | (go_at_call 123; (with_reducible refine (lower95 _).mono ?_); rintro e w1 ⟨rfl, rfl⟩))
            all_goals go_ret2
            all_goals exact ⟨by rw [HD.out]; rfl, TT.out⟩
      | some d =>
        have hF : hexM acc (c :: t.drop (k + 1)) = hexM (16 * acc + d) (t.drop (k + 1)) := by simp [hexM, hm, hq]
        rw [hF] at hdec
        have hd15 : d ≤ 15 ∧ ((48 ≤ m ∧ m ≤ 57 ∧ d = m - 48) ∨ (97 ≤ m ∧ m ≤ 102 ∧ (m ||| 32) = m ∧ d = m - 87) ∨ (65 ≤ m ∧ m ≤ 70 ∧ (m ||| 32) = m + 32 ∧ d = m - 55)) := by
          unfold hexd at hq
          split at hq
          · simp at hq; omega
          · split at hq
            · rename_i q; have := l1 q; simp at hq; omega
            · split at hq
              · rename_i q; have := l2 q; simp at hq; omega
              · simp at hq
        obtain ⟨hd, hcase⟩ := hd15
        have HN : Hid ((16 * acc + d) * (if k + 1 = 0 then 256 else if k + 1 = 1 then 16 else 1) ≤ 255 ∧ hexM 0 t = hexM (16 * acc + d) (t.drop (k + 1))) := ⟨HBD.out d hd, hdec⟩
        have HA : Hid (a = (acc : Int)) := ha
        generalize hlm : (m ||| 32) = lm at *
        clear hdec hF l1 l2 l3 hq hlm ha hacc2 HBD
        rcases hcase with ⟨q1, q2, q3⟩ | ⟨q1, q2, q3, q4⟩ | ⟨q1, q2, q3, q4⟩
        · have i1 : 0 ≤ (m : Int) - 48 := by omega
          have i2 : (m : Int) - 48 ≤ 9 := by omega
          go_wp2
          refine ⟨⟨k + 1, 16 * acc + d, a * 16 + ((m : Int) - 48), rfl, (by first | rfl | (congr 1; omega)), (by first | rfl | (congr 1; omega)), by omega, Lib.hid ⟨by have := HA.out; omega, HN.out⟩⟩, by simp [intOf]; omega⟩
        · subst q3
          have i1 : 0 ≤ (lm : Int) - 97 + 10 := by omega
          have i2 : (lm : Int) - 97 + 10 ≤ 15 := by omega
          go_wp2_with (go_at_call 123; (with_reducible refine (hlc _).mono ?_); rintro e w1 ⟨rfl, rfl⟩)
          refine ⟨⟨k + 1, 16 * acc + d, a * 16 + ((lm : Int) - 97 + 10), rfl, (by first | rfl | (congr 1; omega)), (by first | rfl | (congr 1; omega)), by omega, Lib.hid ⟨by have := HA.out; omega, HN.out⟩⟩, by simp [intOf]; omega⟩
        · subst q3
          have i1 : 0 ≤ ((m + 32 : Nat) : Int) - 97 + 10 := by omega
          have i2 : ((m + 32 : Nat) : Int) - 97 + 10 ≤ 15 := by omega
          go_wp2_with (go_at_call 123; (with_reducible refine (hlc _).mono ?_); rintro e w1 ⟨rfl, rfl⟩)
          refine ⟨⟨k + 1, 16 * acc + d, a * 16 + (((m + 32 : Nat) : Int) - 97 + 10), rfl, (by first | rfl | (congr 1; omega)), (by first | rfl | (congr 1; omega)), by omega, Lib.hid ⟨by have := HA.out; omega, HN.out⟩⟩, by simp [intOf]; omega⟩
    · have hkk : k = 2 := by omega
      subst hkk
      have hF : hexM acc (t.drop 2) = some acc := by rw [List.drop_eq_nil_of_le (by omega)]; rfl
      rw [hF] at hdec
      subst ha
      have HD : Hid (hexM 0 t = some acc) := hdec
      clear hacc hF hdec
      go_wp2
      go_ret2
      exact ⟨by rw [HD.out]; rfl, TT.out⟩
end Go.Proofs.YteblabpplaaddaaGreatDoor
