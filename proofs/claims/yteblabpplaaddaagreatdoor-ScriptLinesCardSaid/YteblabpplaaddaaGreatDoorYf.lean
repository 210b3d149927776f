/- The law ScriptLines: its walk. -/
import Derived.Test.YteblabpplaaddaaGreatDoorMy
set_option linter.unusedVariables false
set_option linter.unusedSimpArgs false
namespace Go.Proofs.YteblabpplaaddaaGreatDoor
open Go.RowKit Go.Mine Go.Mine.Sc

set_option maxRecDepth 100000 in
theorem strs_to {w : World} {S : Nat → Prop} {a : Option Addr} {n cap : Nat} {xs : List Value} (h : Rd w S 1 (.slice a n cap) xs n) (j : Nat) (hj : j ≤ n) (W : World) :
    (Instr.slice 24 (.slice a n cap) none (some (.int .i64 j)) none).run Tryz.prog W = .ok (.slice a j cap) W := by
  obtain ⟨i, hi, hz0, hz1, hz2⟩ := info_parts info9
  obtain ⟨-, a', cap', hv, h1, h2, -⟩ := h
  injection hv with hv1 hv2 hv3
  subst hv1; subst hv3
  have hjc : j ≤ cap := by omega
  simp [Instr.slice, Instr.sliceBounds, Instr.sliceBound, asIntOf, run_underlying Tryz.underlying24, sizeOf, typeInfo, hi, hjc, Result.andThen]
  intro _
  cases a with
  | none => rfl
  | some ad => simp [Addr.add]

def LiR (w : World) (n g : Nat) (v3 v14 : Value) (wr : World) : Prop := ∃ (k : Nat) (t : B), v14 = .int .i64 (k : Nat) ∧ v3 = .string (bs t) ∧ k + g = n ∧ t.length ≤ 131073 ∧ Turned (fun _ => False) w wr

set_option maxRecDepth 200000 in
set_option maxHeartbeats 4000000 in
theorem lines_law (w0 w : World) (S : Nat → Prop) (a : Option Addr) (N cap : Nat) (l : List B) (hL : Lw w0 w) (hl : Rd w S 1 (.slice a N cap) (scells l) N) (hs : ∀ x ∈ l, x.length ≤ 4611686018427387904) : Calls Tryz.prog 4 #[.slice a N cap] w fun e w' => e = .returned (.bool true) ∧ Turned (fun _ => False) w w' := by
  have P : Hid (∀ (t : B) W, t.length ≤ 4611686018427387904 → Turned (fun _ => False) w W → Calls Tryz.prog 9 #[.string (bs t)] W fun e w' => e = .returned (.bool true) ∧ Turned (fun _ => False) W w') := fun t W ht tw => parsed_any w0 W t (hL.turned0 tw) ht
  have R : Calls Tryz.prog 8 #[] w fun e w' => e = .returned (.bool true) ∧ Turned (fun _ => False) w w' := reads_any w0 w hL
  obtain ⟨m, hm⟩ : ∃ m : Nat, m = min N 1100 := ⟨_, rfl⟩
  have HM : Hid (m = min N 1100) := hm
  have HX : Hid (∀ x ∈ l, x.length ≤ 4611686018427387904) := hs
  have hmn : min (N : Int) 1100 = (m : Int) := by rw [hm]; omega
  have hrun := strs_to hl m (by omega)
  have HC : Hid (Rd w S 1 (.slice a N cap) (scells l) N) := hl
  clear hL hs hm hl
  go_enter Tryz.func4, Tryz.ntmps4
  go_upto_region 5 with (go_at_call 8; (with_reducible refine R.mono ?_); rintro e w1 ⟨rfl, t1⟩; have T1 : Hid (Turned (fun _ => False) w w1) := t1; clear t1)
  clear R hmn hrun
  have B0 : Hid (LiR w m m (.string ⟨#[]⟩) (.int .i64 0) w1) := ⟨0, [], rfl, rfl, by omega, by simp, T1.out⟩
  go_loopg [3, 14] m (fun g v3 v14 wr => LiR w m g v3 v14 wr)
  case atStart => exact B0.out
  case round =>
    obtain ⟨k, t, rfl, rfl, hkg, htl, ht⟩ := hrel
    have G : Hid (k + gk = m ∧ t.length ≤ 131073 ∧ Turned (fun _ => False) w wr) := ⟨hkg, htl, ht⟩
    clear hkg htl ht B0
    by_cases hlt : k < m
    · have hd1 : decide ((k : Int) < (m : Int)) = true := by simp; omega
      have hd2 : decide (k < m) = true := by simp; omega
      have HK : Hid (m ≤ 1100) := hidD (by have := HM.out; omega)
      obtain ⟨g, off, ha, hlg, hcs⟩ := (HC.out.turned G.out.2.2 fun _ _ q => q).opens (by have := HM.out; omega)
      subst ha
      have hx0 : (scells l).length = N * 1 := HC.out.1
      obtain ⟨y, hy⟩ : ∃ y, l[k]? = some y := ⟨_, List.getElem?_eq_getElem (by have := HM.out; simp [scells] at hx0; omega)⟩
      have hk9 : wr.cell? ⟨g, off + k, none⟩ = some (.string (bs y)) := by
        rw [hcs k (by have := HM.out; omega), scells, List.getElem?_map, hy]; rfl
      have YL : Hid (y.length ≤ 4611686018427387904) := HX.out y (List.mem_of_getElem? hy)
      have HW : Hid (wrap64 ((k : Int) + 1) = ((k + 1 : Nat) : Int)) := hidD (w64_in _ (by have := HK.out; omega))
      have sz1 : (bs t).size = t.length := bs_size t
      have sz2 : (bs y).size = y.length := bs_size y
      have hwS : wrap64 (((bs t).size : Int) + ((bs y).size : Int)) = (((t.length + y.length : Nat)) : Int) := by rw [sz1, sz2, w64_in _ (by have := G.out; have := YL.out; omega)]; simp
      have p9 : Calls Tryz.prog 9 #[.string (bs y)] wr fun e w' => e = .returned (.bool true) ∧ Turned (fun _ => False) wr w' := P.out y wr YL.out G.out.2.2
      clear hcs hx0 hy
      by_cases hbig : 131072 < t.length + y.length
      · have hd3 : decide ((131072 : Int) < ((t.length + y.length : Nat) : Int)) = true := by simp; omega
        have hd4 : decide (131072 < t.length + y.length) = true := by simp; omega
        clear sz1 sz2
        generalize bs t = xt at *
        generalize bs y = xy at *
        generalize t.length + y.length = z at *
        go_wp2
        go_ret
        exact ⟨rfl, G.out.2.2⟩
      · have hd3 : decide ((131072 : Int) < ((t.length + y.length : Nat) : Int)) = false := by simp; omega
        have hd4 : decide (131072 < t.length + y.length) = false := by simp; omega
        have ZL : Hid (t.length + y.length ≤ 131072) := hidD (by omega)
        have hd5 : decide ((131072 : Int) < ((bs t).size : Int) + ((bs y).size : Int)) = false := by rw [sz1, sz2]; simp; omega
        have hd6 : decide (131072 < (bs t).size + (bs y).size) = false := by rw [sz1, sz2]; simp; omega
        have c1 : ¬ 9223372036854775807 < (bs y).size + 1 := by rw [sz2]; omega
        have c2 : ¬ 9223372036854775807 < (bs t).size + ((bs y).size + 1) := by rw [sz1, sz2]; omega
        have XT : Hid (bs t ++ (bs y ++ ⟨#[10]⟩) = bs (t ++ (y ++ [10]))) := hidD (by rw [← bs_append, ← bs_append])
        clear sz1 sz2 hbig
        generalize bs t = xt at *
        generalize bs y = xy at *
        generalize hz : t.length + y.length = z at *
        have HZ : Hid (t.length + y.length = z) := hz
        clear hz
        go_wp2_with (go_at_call 9; (with_reducible refine p9.mono ?_); rintro e w2 ⟨rfl, t2⟩; have T2 : Hid (Turned (fun _ => False) wr w2) := t2; clear t2)
        go_roundg (gk - 1)
        case measure => have := G.out; omega
        case rel => exact ⟨k + 1, t ++ (y ++ [10]), by rw [HW.out], by rw [← XT.out], by have := G.out; omega, by have := ZL.out; have := HZ.out; simp; omega, G.out.2.2.trans T2.out fun _ _ q => q⟩
    · have hd1 : decide ((k : Int) < (m : Int)) = false := by simp; omega
      have hd2 : decide (k < m) = false := by simp; omega
      have p9 : Calls Tryz.prog 9 #[.string (bs t)] wr fun e w' => e = .returned (.bool true) ∧ Turned (fun _ => False) wr w' := P.out t wr (by have := G.out; omega) G.out.2.2
      generalize bs t = xt at *
      go_wp2_with (go_at_call 9; (with_reducible refine p9.mono ?_); rintro e w2 ⟨rfl, t2⟩; have T2 : Hid (Turned (fun _ => False) wr w2) := t2; clear t2)
      go_ret
      exact ⟨rfl, G.out.2.2.trans T2.out fun _ _ q => q⟩
end Go.Proofs.YteblabpplaaddaaGreatDoor
