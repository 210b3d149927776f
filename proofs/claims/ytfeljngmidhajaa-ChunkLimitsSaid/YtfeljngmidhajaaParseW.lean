/- Parse: the walk. -/
import Derived.Test.YtfeljngmidhajaaTableW
import Derived.Test.YtfeljngmidhajaaOpen
namespace Go.Proofs.Ytfeljngmidhajaa
open Go.RowKit Go.Mine

def finR : Option (List Ch) → Except Nat (List Ch)
  | none => .error 3
  | some l => .ok l

/-- what Parse answers -/
def parseR (t : ByteArray) : Except Nat (List Ch) :=
  if 4194304 < t.size then .error 5
  else if t.size < 10 then .error 2
  else if t.extract 0 5 ≠ ⟨#[80, 68, 71, 67, 1]⟩ then .error 3
  else if (rdNum (t.extract (t.size - 4) t.size) (0, 0) 4).1 ≠ Crc.sum (nums (t.extract 0 (t.size - 4))) then .error 4
  else finR (progT (t.extract 5 (t.size - 4)))

def ParsePost (w : World) (r : Except Nat (List Ch)) (e : Ending) (w' : World) : Prop :=
  Turned (fun _ => False) w w' ∧ match r with
    | .error k => e = .returned (.tuple #[.slice none 0 0, .int .i64 (k : Nat)])
    | .ok l => ∃ v, e = .returned (.tuple #[v, .int .i64 0]) ∧ Sl w' (fun b => w.heap.size ≤ b) 31 2 v (ccells l) l.length

set_option maxRecDepth 100000 in
set_option maxHeartbeats 4000000 in
theorem parse_any (t : ByteArray) (w : World) (hs : t.size ≤ 4611686018427387904) : Calls Try.prog 29 #[.string t] w (ParsePost w (parseR t)) := by
  by_cases h1 : 4194304 < t.size
  · have hd : decide ((4194304 : Int) < (t.size : Int)) = true := by simp; omega
    have hd2 : decide (4194304 < t.size) = true := by simp; omega
    have HR : Hid (parseR t = .error 5) := by
      have : parseR t = .error 5 := by unfold parseR; rw [if_pos h1]
      exact this
    rw [HR.out]
    clear hs h1
    go_enter Try.func29, Try.ntmps29
    go_wp2
    go_ret2
    exact ⟨Turned.refl _ _, rfl⟩
  have hd : decide ((4194304 : Int) < (t.size : Int)) = false := by simp; omega
  have hd2 : decide (4194304 < t.size) = false := by simp; omega
  by_cases h2 : t.size < 10
  · have hd3 : decide ((t.size : Int) < 10) = true := by simp; omega
    have hd4 : decide (t.size < 10) = true := by simp; omega
    have HR : Hid (parseR t = .error 2) := by
      have : parseR t = .error 2 := by unfold parseR; rw [if_neg h1, if_pos h2]
      exact this
    rw [HR.out]
    clear hs h1 h2
    go_enter Try.func29, Try.ntmps29
    go_wp2
    go_ret2
    exact ⟨Turned.refl _ _, rfl⟩
  have hd3 : decide ((t.size : Int) < 10) = false := by simp; omega
  have hd4 : decide (t.size < 10) = false := by simp; omega
  have hw : wrap64 ((t.size : Int) - 4) = ((t.size - 4 : Nat) : Int) := by simp [wrap64]; omega
  have hsl1 : ∀ W, (Instr.slice 9 (.string t) none (some (.int .i64 5)) none).run Try.prog W = .ok (.string (t.extract 0 5)) W := fun W => by
    have := run_slice_string_h (P := Try.prog) W 9 t Try.underlying9 .i64 5 (by omega) (by omega)
    exact this
  by_cases h3 : t.extract 0 5 = ⟨#[80, 68, 71, 67, 1]⟩
  · rw [h3] at hsl1
    have hsl2 : ∀ W, (Instr.slice 9 (.string t) (some (.int .i64 (wrap64 ((t.size : Int) - 4)))) none none).run Try.prog W = .ok (.string (t.extract (t.size - 4) t.size)) W := fun W => by
      rw [hw]
      have := run_slice_string_l (P := Try.prog) W 9 t Try.underlying9 .i64 ((t.size - 4 : Nat) : Int) (by omega) (by omega)
      rw [Int.toNat_natCast] at this
      exact this
    have hsl3 : ∀ W, (Instr.slice 9 (.string t) none (some (.int .i64 (wrap64 ((t.size : Int) - 4)))) none).run Try.prog W = .ok (.string (t.extract 0 (t.size - 4))) W := fun W => by
      rw [hw]
      have := run_slice_string_h (P := Try.prog) W 9 t Try.underlying9 .i64 ((t.size - 4 : Nat) : Int) (by omega) (by omega)
      rw [Int.toNat_natCast] at this
      exact this
    have hsl4 : ∀ W, (Instr.slice 9 (.string t) (some (.int .i64 5)) (some (.int .i64 (wrap64 ((t.size : Int) - 4)))) none).run Try.prog W = .ok (.string (t.extract 5 (t.size - 4))) W := fun W => by
      rw [hw]
      have := run_slice_string (P := Try.prog) W 9 t .i64 .i64 5 ((t.size - 4 : Nat) : Int) Try.underlying9 (by omega) (by omega) (by omega)
      rw [Int.toNat_natCast] at this
      exact this
    have z2 : (t.extract (t.size - 4) t.size).size ≤ 4611686018427387904 := by rw [ByteArray.size_extract]; omega
    have z3 : (t.extract 0 (t.size - 4)).size ≤ 4611686018427387904 := by rw [ByteArray.size_extract]; omega
    have z4 : (t.extract 5 (t.size - 4)).size ≤ 4611686018427387904 := by rw [ByteArray.size_extract]; omega
    have hp : parseR t = if (rdNum (t.extract (t.size - 4) t.size) (0, 0) 4).1 ≠ Crc.sum (nums (t.extract 0 (t.size - 4))) then .error 4 else finR (progT (t.extract 5 (t.size - 4))) := by
      unfold parseR
      rw [if_neg h1, if_neg h2, if_neg (by simp [h3])]
    have hsum := fun W => sum_one (W : World).heap.size 0 1 (t.extract 0 (t.size - 4)) (W.alloc (.cells #[.string (t.extract 0 (t.size - 4))] 9)) (cell_of (heap_alloc_last W _) 0 _ rfl) (by simp) z3
    have hu := fun (W : World) (p : Nat) (h : RdIs W p (t.extract (t.size - 4) t.size) (0, 0)) => u32_r h (Nat.zero_le _) z2
    have ht := fun (W : World) (p : Nat) (h : RdIs W p (t.extract 5 (t.size - 4)) (0, 0)) => table_any h z4
    unfold NumPost at hu
    unfold TabPost at ht
    have hq : (rdNum (t.extract (t.size - 4) t.size) (0, 0) 4).1 < 4294967296 := rdNum_lt _ _ 4
    have hcs := crcsum_lt (t.extract 0 (t.size - 4))
    generalize rdNum (t.extract (t.size - 4) t.size) (0, 0) 4 = q at *
    generalize progT (t.extract 5 (t.size - 4)) = r at *
    generalize Crc.sum (nums (t.extract 0 (t.size - 4))) = cs at *
    generalize t.extract (t.size - 4) t.size = s2 at *
    generalize t.extract 0 (t.size - 4) = s3 at *
    generalize t.extract 5 (t.size - 4) = s4 at *
    have HP : Hid (parseR t = if q.1 ≠ cs then .error 4 else finR r) := hp
    have HU : Hid (∀ (W : World) (p : Nat), RdIs W p s2 (0, 0) → Calls Try.prog 60 #[pt p] W _) := hu
    have HT : Hid (∀ (W : World) (p : Nat), RdIs W p s4 (0, 0) → Calls Try.prog 61 #[pt p] W _) := ht
    have hn := newReader_any s2 w
    clear hu ht hp hs h1 h2 h3 hw z2 z3 z4
    by_cases hqc : q.1 = cs
    · have hd5 : ((q.1 : Int) == (cs : Int)) = true := by simp; omega
      have hpr := HP.out
      rw [if_neg (by simp [hqc])] at hpr
      have HPR : Hid (parseR t = finR r) := hpr
      rw [hpr]
      clear hpr hq hcs hqc HP
      go_enter Try.func29, Try.ntmps29
      go_wp2_with (first
        | (go_at_call 59; (with_reducible refine hn.mono ?_); rintro e w1 ⟨rfl, hr1, ht1, hz1⟩; have h60 := HU.out w1 _ hr1; have Z1 : Hid (Turned (fun _ => False) w w1 ∧ w1.heap.size = w.heap.size + 1) := ⟨ht1, hz1⟩; clear hr1 ht1 hz1 hn)
        | (go_at_call 60; (with_reducible refine h60.mono ?_); rintro e w2 ⟨rfl, hr2, ht2⟩; have Z2 : Hid (Turned (fun _ => False) w w2) := Z1.out.1.comp ht2 (fun i hi q => q.elim (fun q => q) (fun q => by omega)); have h47 := hsum w2; clear hr2 ht2 h60)
        | (go_at_call 47; (with_reducible refine h47.mono ?_); rintro e w3 ⟨rfl, ht3⟩; have Z3 : Hid (Turned (fun _ => False) w w3) := Z2.out.trans ((Turned.alloc (fun _ => False) w2 _).trans ht3 fun _ _ q => q) (fun _ _ q => q); have hn3 := newReader_any s4 w3; clear ht3 h47)
        | (go_at_call 59; (with_reducible refine hn3.mono ?_); rintro e w4 ⟨rfl, hr4, ht4, hz4⟩; have h61 := HT.out w4 _ hr4; have Z4 : Hid (Turned (fun _ => False) w w4 ∧ w4.heap.size = w3.heap.size + 1) := ⟨Z3.out.trans ht4 (fun _ _ q => q), hz4⟩; clear hr4 ht4 hz4 hn3))
      refine h61.mono ?_
      have hz := Z3.out.size
      have hz4 := Z4.out.2
      rintro e w5 ⟨ht5, ⟨hr, rfl⟩ | ⟨l, v, hr, rfl, hsl⟩⟩
      · have T5 : Hid (Turned (fun _ => False) w w5) := Z4.out.1.comp ht5 (fun i hi q => q.elim (fun q => q) fun q => by omega)
        subst hr
        clear ht5 h61
        go_wp2
        go_ret2
        exact ⟨T5.out, rfl⟩
      · have T5 : Hid (Turned (fun _ => False) w w5) := Z4.out.1.comp ht5 (fun i hi q => q.elim (fun q => q) fun q => by omega)
        have L5 : Hid (Sl w5 (fun b => w.heap.size ≤ b) 31 2 v (ccells l) l.length) := hsl.widen fun b q => by omega
        subst hr
        clear ht5 h61
        obtain ⟨a, cap, rfl, -, -⟩ := hsl.value
        clear hsl
        go_wp2
        go_ret2
        exact ⟨T5.out, _, rfl, L5.out⟩
    · have hd5 : ((q.1 : Int) == (cs : Int)) = false := by simp; omega
      have hpr := HP.out
      rw [if_pos hqc] at hpr
      rw [hpr]
      clear hpr hq hcs hqc HP
      go_enter Try.func29, Try.ntmps29
      go_wp2_with (first
        | (go_at_call 59; (with_reducible refine hn.mono ?_); rintro e w1 ⟨rfl, hr1, ht1, hz1⟩; have h60 := HU.out w1 _ hr1; have Z1 : Hid (Turned (fun _ => False) w w1 ∧ w1.heap.size = w.heap.size + 1) := ⟨ht1, hz1⟩; clear hr1 ht1 hz1 hn)
        | (go_at_call 60; (with_reducible refine h60.mono ?_); rintro e w2 ⟨rfl, hr2, ht2⟩; have Z2 : Hid (Turned (fun _ => False) w w2) := Z1.out.1.comp ht2 (fun i hi q => q.elim (fun q => q) (fun q => by omega)); have h47 := hsum w2; clear hr2 ht2 h60)
        | (go_at_call 47; (with_reducible refine h47.mono ?_); rintro e w3 ⟨rfl, ht3⟩; have Z3 : Hid (Turned (fun _ => False) w w3) := Z2.out.trans ((Turned.alloc (fun _ => False) w2 _).trans ht3 fun _ _ q => q) (fun _ _ q => q); clear ht3 h47))
      go_ret2
      exact ⟨Z3.out, rfl⟩
  · have HR : Hid (parseR t = .error 3) := by
      have : parseR t = .error 3 := by unfold parseR; rw [if_neg h1, if_neg h2, if_pos h3]
      exact this
    rw [HR.out]
    generalize t.extract 0 5 = m at *
    have hne := ba_ne m [80, 68, 71, 67, 1] h3
    clear hs h1 h2 hw h3
    go_enter Try.func29, Try.ntmps29
    go_wp2
    go_ret2
    exact ⟨Turned.refl _ _, rfl⟩
end Go.Proofs.Ytfeljngmidhajaa
