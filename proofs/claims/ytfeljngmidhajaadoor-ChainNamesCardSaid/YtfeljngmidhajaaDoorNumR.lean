/- A name's number: the walk of the document's Number. -/
import Derived.Test.YtfeljngmidhajaaDoorNumX
import Derived.BigQuiet
namespace Go.Proofs.YtfeljngmidhajaaDoor
open Go.RowKit Go.Mine

def RnRel (w : World) (x : ByteArray) (g : Nat) (n i : Value) (wr : World) : Prop :=
  ∃ j m : Nat, 6 ≤ j ∧ j + g = x.size ∧ i = .int .i64 (j : Nat) ∧ n = .int .i64 (m : Nat) ∧ Lib.decFrom 0 ((x.data.toList.drop 6).take (j - 6)) = some m ∧ m < 10000000000 ∧ Turned (fun _ => False) w wr

theorem pow_small (k : Nat) (h : k ≤ 10) : (10 : Nat) ^ k ≤ 10000000000 := Nat.le_trans (Nat.pow_le_pow_right (by decide) h) (by decide)

theorem decFrom_bad : ∀ (l : List UInt8) (acc k : Nat) (b : UInt8), l[k]? = some b → Lib.digitVal b = none → Lib.decFrom acc l = none
  | [], _, k, b, h, _ => by simp at h
  | c :: l, acc, 0, b, h, hb => by
    simp at h
    subst h
    simp [Lib.decFrom, hb]
  | c :: l, acc, k + 1, b, h, hb => by
    simp only [Lib.decFrom]
    cases Lib.digitVal c with
    | none => rfl
    | some e => exact decFrom_bad l _ k b (by simpa using h) hb

set_option maxRecDepth 100000 in
set_option maxHeartbeats 4000000 in
theorem rnumber_any (x : ByteArray) (w : World) (ht : Tab w) (hs : x.size ≤ 281474976710656) :
    Calls Tryd.prog 16 #[.string x] w fun e w' => e = .returned (numV (refN x)) ∧ Turned (fun _ => False) w w' := by
  by_cases hz : x.size < 7 ∨ 16 < x.size
  · have HR : Hid (refN x = (0, false)) := by
      have : refN x = (0, false) := by unfold refN; rw [if_pos hz]
      exact this
    by_cases h7 : x.size < 7
    · have hd : decide ((x.size : Int) < 7) = true := by simp; omega
      have hd2 : decide (x.size < 7) = true := by simp; omega
      clear hz hs ht
      go_enter Tryd.func16, Tryd.ntmps16
      go_wp2
      go_ret2
      exact ⟨by rw [HR.out]; rfl, Turned.refl _ _⟩
    · have hd : decide ((x.size : Int) < 7) = false := by simp; omega
      have hd2 : decide (x.size < 7) = false := by simp; omega
      have he : decide ((16 : Int) < (x.size : Int)) = true := by simp; omega
      have he2 : decide (16 < x.size) = true := by simp; omega
      clear hz hs ht
      go_enter Tryd.func16, Tryd.ntmps16
      go_wp2
      go_ret2
      exact ⟨by rw [HR.out]; rfl, Turned.refl _ _⟩
  · have hd : decide ((x.size : Int) < 7) = false := by simp; omega
    have hd2 : decide (x.size < 7) = false := by simp; omega
    have he : decide ((16 : Int) < (x.size : Int)) = false := by simp; omega
    have he2 : decide (16 < x.size) = false := by simp; omega
    have HZ : Hid (7 ≤ x.size ∧ x.size ≤ 16) := (by omega : 7 ≤ x.size ∧ x.size ≤ 16)
    have HR : Hid (refN x = match Lib.decFrom 0 (x.data.toList.drop 6) with | none => (0, false) | some n => if nameS (n : Int) = x then ((n : Int), true) else (0, false)) := by
      have : refN x = match Lib.decFrom 0 (x.data.toList.drop 6) with | none => (0, false) | some n => if nameS (n : Int) = x then ((n : Int), true) else (0, false) := by
        unfold refN
        rw [if_neg hz]
        cases Lib.decFrom 0 (x.data.toList.drop 6) <;> rfl
      exact this
    have HT : Hid (Tab w) := ht
    clear hz hs ht
    go_enter Tryd.func16, Tryd.ntmps16
    go_wp2
    go_loopg [4, 5] (x.size - 6) (fun g n i wr => RnRel w x g n i wr)
    case atStart => exact ⟨6, 0, by omega, by have := HZ.out; omega, rfl, rfl, by simp [Lib.decFrom], by omega, Turned.refl _ _⟩
    case round =>
      obtain ⟨j, m, hj6, hjg, rfl, rfl, hdf, hm, htr⟩ := hrel
      have G : Hid (6 ≤ j ∧ j + gk = x.size ∧ m < 10000000000) := ⟨hj6, hjg, hm⟩
      have DF : Hid (Lib.decFrom 0 ((x.data.toList.drop 6).take (j - 6)) = some m) := hdf
      have T : Hid (Turned (fun _ => False) w wr) := htr
      clear hj6 hjg hdf hm htr
      by_cases hlt : j < x.size
      · obtain ⟨b, hb⟩ : ∃ b, x.data.toList[j]? = some b := ⟨_, List.getElem?_eq_getElem (by simpa using hlt)⟩
        have hidx : ∀ W, (Instr.index 9 (.string x) (.int .i64 (j : Nat))).run Tryd.prog W = .ok (.int .u8 (b.toNat : Nat)) W := fun W => by
          rw [run_index_string W 9 x .i64 _ Tryd.underlying9, dif_pos (by omega)]
          have hb3 : x[j]'(by omega) = b := by
            rw [Array.getElem?_toList] at hb
            exact (Array.getElem?_eq_some_iff.1 hb).2
          simp only [Int.toNat_natCast, hb3]
        have hbd : (x.data.toList.drop 6)[j - 6]? = some b := by rw [List.getElem?_drop, show 6 + (j - 6) = j by have := G.out; omega]; exact hb
        have hb256 := b.toNat_lt
        cases hdv : Lib.digitVal b with
        | none =>
          have hbad := decFrom_bad _ 0 _ b hbd hdv
          have HRF : Hid (refN x = (0, false)) := by
            have : refN x = (0, false) := by rw [HR.out, hbad]
            exact this
          have hor : b.toNat < 48 ∨ (48 ≤ b.toNat ∧ 57 < b.toNat) := by
            unfold Lib.digitVal at hdv
            split at hdv
            · simp at hdv
            · omega
          clear hb hbd hbad hdv hb256
          generalize b.toNat = c at *
          rcases hor with h1 | ⟨h1, h2⟩
          · have ha1 : decide ((c : Int) < 48) = true := by simp; omega
            have ha2 : decide (c < 48) = true := by simp; omega
            clear h1
            go_wp2
            go_ret2
            exact ⟨by rw [HRF.out]; rfl, T.out⟩
          · have ha1 : decide ((c : Int) < 48) = false := by simp; omega
            have ha2 : decide (c < 48) = false := by simp; omega
            have ha3 : decide ((57 : Int) < (c : Int)) = true := by simp; omega
            have ha4 : decide (57 < c) = true := by simp; omega
            clear h1 h2
            go_wp2
            go_ret2
            exact ⟨by rw [HRF.out]; rfl, T.out⟩
        | some dv =>
          obtain ⟨h1, h2, h3⟩ := Lib.digitVal_eq hdv
          have hnx := Lib.decFrom_take _ _ _ _ _ _ DF.out hbd hdv
          have NX : Hid (Lib.decFrom 0 ((x.data.toList.drop 6).take (j - 6 + 1)) = some (m * 10 + dv)) := hnx
          have HD : Hid (dv = b.toNat - 48 ∧ 48 ≤ b.toNat ∧ b.toNat ≤ 57) := ⟨h3, h1, h2⟩
          have HX : Hid (m * 10 + dv < 10000000000) := by
            have : m * 10 + dv < 10000000000 := by
              have q := Lib.decFrom_lt _ _ _ hnx
              have hlen : ((x.data.toList.drop 6).take (j - 6 + 1)).length ≤ 10 := by
                rw [List.length_take]
                have := HZ.out; have := G.out; omega
              have := pow_small _ hlen
              omega
            exact this
          clear hb hbd hnx hdv hb256 h3
          generalize b.toNat = c at *
          have ha1 : decide ((c : Int) < 48) = false := by simp; omega
          have ha2 : decide (c < 48) = false := by simp; omega
          have ha3 : decide ((57 : Int) < (c : Int)) = false := by simp; omega
          have ha4 : decide (57 < c) = false := by simp; omega
          clear h1 h2
          go_wp2
          go_roundg (gk - 1)
          case measure => have := G.out; omega
          case rel =>
            have g := G.out
            have hd := HD.out
            have hx := HX.out
            have hz := HZ.out
            refine ⟨j + 1, m * 10 + dv, by omega, by omega, by simp [wrap64]; omega, ?_, by rw [show j + 1 - 6 = j - 6 + 1 by omega]; exact NX.out, hx, T.out⟩
            congr 1
            simp only [wrap64]
            omega
      · have hj : j = x.size := by have := G.out; omega
        have hfull : (x.data.toList.drop 6).take (j - 6) = x.data.toList.drop 6 := List.take_of_length_le (by rw [List.length_drop, hj]; simp)
        have hr := HR.out
        have hdf := DF.out
        rw [hfull] at hdf
        rw [hdf] at hr
        simp only at hr
        have hnm := rname_any (m : Int) (by have := G.out; unfold I64; omega) wr (HT.out.turned T.out)
        clear hdf hfull hj
        by_cases hn : nameS (m : Int) = x
        · rw [if_pos hn] at hr
          rw [hn] at hnm
          have HRF : Hid (refN x = ((m : Int), true)) := hr
          clear hr hn
          go_wp2_with (go_at_call 15; (with_reducible refine hnm.mono ?_); rintro e w2 ⟨rfl, ht2⟩)
          go_ret2
          exact ⟨by rw [HRF.out]; rfl, T.out.trans ht2 fun _ _ q => q⟩
        · rw [if_neg hn] at hr
          have hne := ba_ne2 _ _ hn
          have HRF : Hid (refN x = (0, false)) := hr
          generalize nameS (m : Int) = y at *
          clear hr hn
          go_wp2_with (go_at_call 15; (with_reducible refine hnm.mono ?_); rintro e w2 ⟨rfl, ht2⟩)
          go_ret2
          exact ⟨by rw [HRF.out]; rfl, T.out.trans ht2 fun _ _ q => q⟩
end Go.Proofs.YtfeljngmidhajaaDoor
