/- ChainBack: the walks, printed by gen_lback.py: one for each way that the links and the text may go. -/
import Derived.Test.YtfeljngmidhajaaDoorLbackp
import Derived.Test.YtfeljngmidhajaaDoorDecoded
import Derived.Test.YtfeljngmidhajaaDoorLinks
namespace Go.Proofs.YtfeljngmidhajaaDoor
open Go.RowKit Go.Mine

set_option maxRecDepth 100000 in
set_option maxHeartbeats 8000000 in
theorem lback_any (a : Option Addr) (cap : Nat) (l : List Ln) (t : ByteArray) (at_ : Nat) (w : World) (h : LnIs w a cap l) (ht : Tab w) (hs : t.size ≤ 140737488355328) (hat : at_ < 65536) :
    Calls Tryd.prog 4 #[.slice a l.length cap, .string t, .int .u16 at_] w fun e w' => e = .returned (.bool true) ∧ Turned (fun _ => False) w w' := by
  have hh := links_any w ht
  have HC : Hid (LnIs w a cap l) := h
  have hE := fun W (ht : Turned (fun _ => False) w W) => encode_any a cap l W (h.turned ht)
  have zm : (⟨#[80, 68, 71, 77, 1]⟩ ++ t : ByteArray).size = 5 + t.size := by rw [ByteArray.size_append]; rfl
  have hse := fun W => sealed_any (⟨#[80, 68, 71, 77, 1]⟩ ++ t) W (by rw [zm]; omega)
  have hds := fun W => decode_any (sealed (⟨#[80, 68, 71, 77, 1]⟩ ++ t)) W (by rw [sealed_size, zm]; omega)
  have hadd : ∀ W, (Op.stringOp .add ⟨#[80, 68, 71, 77, 1]⟩ t).run Tryd.prog W = .ok (.string (⟨#[80, 68, 71, 77, 1]⟩ ++ t)) W := fun W => run_string_add_sum W _ _ (by
    have : (⟨#[80, 68, 71, 77, 1]⟩ : ByteArray).size = 5 := rfl
    omega)
  have hln := h.2.2.1
  clear hs zm ht
  generalize sealed (⟨#[80, 68, 71, 77, 1]⟩ ++ t) = S at *
  generalize (⟨#[80, 68, 71, 77, 1]⟩ ++ t : ByteArray) = S2 at *
  have DS : Hid (∀ W, Calls Tryd.prog 10 #[.string S] W (DecPost W (decR S))) := hds
  clear hds
  by_cases hbe : lnErr l = 0
  · have hbv : encV l = .tuple #[.string (toldLn l), .int .i64 0] := by unfold encV; rw [if_pos hbe]
    rw [hbv] at hE
    have hsz := told_size l
    have h8 := (lnErr_ok l hbe).1
    have hpt := dec_turned l
    have hpl := dec_told l hbe hln
    have hfd : ∀ W, Calls Tryd.prog 10 #[.string (toldLn l)] W fun e w' => Turned (fun _ => False) W w' ∧ ∃ v, e = .returned (.tuple #[v, .int .i64 0]) ∧ Sl w' (fun b => W.heap.size ≤ b) 43 3 v (lcells l) l.length := fun W => by
      have := decode_any (toldLn l) W (by omega)
      rw [hpl] at this
      exact this
    have hsm : ∀ W S1 (b : Option Addr) (cap2 : Nat), Sl W S1 43 3 (.slice b l.length cap2) (lcells l) l.length → Turned (fun _ => False) w W →
        Calls Tryd.prog 11 #[.slice b l.length cap2, .slice a l.length cap] W fun e w' => e = .returned (.bool true) ∧ Turned (fun _ => False) W w' := fun W S1 b cap2 h1 ht => by
      obtain ⟨b', cap2', hv, hc1⟩ := sl_lnIs h1 hln
      injection hv with e1 _ e3
      subst e1; subst e3
      exact same_list _ _ _ _ l W hc1 (h.turned ht)
    have HSZ : Hid (10 ≤ (toldLn l).size ∧ (toldLn l).size ≤ 4194304) := (by omega : 10 ≤ (toldLn l).size ∧ (toldLn l).size ≤ 4194304)
    clear hsz h8 hpl hbv hbe hln h
    generalize toldLn l = s at *
    generalize l.length = L at *
    have FE : Hid (∀ W, Turned (fun _ => False) w W → Calls Tryd.prog 9 #[.slice a L cap] W fun e w' => e = .returned (.tuple #[.string s, .int .i64 0]) ∧ Turned (fun _ => False) W w') := hE
    have FD : Hid (∀ W, Calls Tryd.prog 10 #[.string s] W fun e w' => Turned (fun _ => False) W w' ∧ ∃ v, e = .returned (.tuple #[v, .int .i64 0]) ∧ Sl w' (fun b => W.heap.size ≤ b) 43 3 v (lcells l) L) := hfd
    have SM : Hid (∀ W S1 (b : Option Addr) (cap2 : Nat), Sl W S1 43 3 (.slice b L cap2) (lcells l) L → Turned (fun _ => False) w W →
        Calls Tryd.prog 11 #[.slice b L cap2, .slice a L cap] W fun e w' => e = .returned (.bool true) ∧ Turned (fun _ => False) W w') := hsm
    obtain ⟨k, hk⟩ : ∃ k, k = at_ / 8 % s.size := ⟨_, rfl⟩
    have hkl : k < s.size := by rw [hk]; have := HSZ.out; exact Nat.mod_lt _ (by omega)
    have hmod : (at_ : Int) / 8 % (s.size : Int) = (k : Int) := by rw [hk]; simp
    obtain ⟨x, hx⟩ : ∃ x, s.data.toList[k]? = some x := ⟨_, List.getElem?_eq_getElem (by simpa using hkl)⟩
    have HX : Hid (s.data.toList[k]? = some x) := hx
    have HPT : Hid (∀ (k : Nat) (z : UInt8), k < s.size → s.data.toList[k]? ≠ some z → decR (setB s k z) = .error (if k < 5 then 3 else 4)) := hpt
    clear hE hfd hsm hk hx hpt
    obtain ⟨y, hy⟩ : ∃ y : Nat, y = 2 ^ (at_ % 8) := ⟨_, rfl⟩
    have hy1 : 0 < y := by rw [hy]; exact Nat.pow_pos (by decide)
    have hy2 : y < 256 := by rw [hy]; exact Nat.lt_of_le_of_lt (Nat.pow_le_pow_right (n := 2) (by decide) (show at_ % 8 ≤ 7 by omega)) (by decide)
    obtain ⟨z, hz⟩ : ∃ z : UInt8, z = UInt8.ofNat (x.toNat ^^^ y) := ⟨_, rfl⟩
    have hx256 := x.toNat_lt
    have hzn : z.toNat = x.toNat ^^^ y := by
      rw [hz, UInt8.toNat_ofNat']
      exact Nat.mod_eq_of_lt (Nat.xor_lt_two_pow (n := 8) (by omega) (by omega))
    have hzx : x ≠ z := by
      intro q
      rw [← q] at hzn
      have : x.toNat ^^^ (x.toNat ^^^ y) = y := by rw [← Nat.xor_assoc, Nat.xor_self, Nat.zero_xor]
      rw [← hzn, Nat.xor_self] at this
      omega
    have hxor : bits .xor .u8 (x.toNat : Int) ((2 : Int) ^ (at_ % 8) % 256) = (z.toNat : Int) := by
      have e1 : (2 : Int) ^ (at_ % 8) % 256 = ((y : Nat) : Int) := by
        have : (2 : Int) ^ (at_ % 8) = ((y : Nat) : Int) := by rw [hy]; simp
        rw [this]; omega
      rw [e1, u8_xor_nat _ _ (by omega) hy2, hzn]
    have hps : ∀ W, Calls Tryd.prog 10 #[.string (setB s k z)] W fun e w' => Turned (fun _ => False) W w' ∧ e = .returned (.tuple #[.slice none 0 0, .int .i64 ((if k < 5 then 3 else 4 : Nat) : Nat)]) := fun W => by
      have := decode_any (setB s k z) W (by rw [setB_size]; have := HSZ.out; omega)
      rw [HPT.out k z hkl (by rw [HX.out]; simpa using hzx)] at this
      exact this
    have HKL : Hid (k < s.size) := hkl
    have HPS : Hid (∀ W, Calls Tryd.prog 10 #[.string (setB s k z)] W fun e w' => Turned (fun _ => False) W w' ∧ e = .returned (.tuple #[.slice none 0 0, .int .i64 ((if k < 5 then 3 else 4 : Nat) : Nat)])) := hps
    have hs0 : ((s.size : Int) == 0) = false := by have := HSZ.out; simp only [beq_eq_false_iff_ne, ne_eq]; omega
    clear hy hy1 hy2 hz hzn hzx hx256 hps
    by_cases hk5 : k < 5
    · have hps := HPS.out
      rw [if_pos hk5] at hps
      have PS : Hid (∀ W, Calls Tryd.prog 10 #[.string (setB s k z)] W fun e w' => Turned (fun _ => False) W w' ∧ e = .returned (.tuple #[.slice none 0 0, .int .i64 3])) := hps
      clear hps HPS hk5
      cases hd2 : decR S with
      | error k2 =>
        have hk2 := dec_err S k2 hd2
        have D2 : Hid (∀ W, Calls Tryd.prog 10 #[.string S] W fun e w' => Turned (fun _ => False) W w' ∧ e = .returned (.tuple #[.slice none 0 0, .int .i64 (k2 : Nat)])) := by
          have : ∀ W, Calls Tryd.prog 10 #[.string S] W fun e w' => Turned (fun _ => False) W w' ∧ e = .returned (.tuple #[.slice none 0 0, .int .i64 (k2 : Nat)]) := fun W => by
            have := DS.out W
            rw [hd2] at this
            exact this
          exact this
        have hk20 : ((k2 : Int) == 0) = false := by simp; omega
        clear hd2 hk2
        go_enter Tryd.func4, Tryd.ntmps4
        go_wp2_with (first
          | (go_at_call 6; (with_reducible refine hh.mono ?_); rintro e w1 ⟨rfl, ht1⟩; have T1 : Hid (Turned (fun _ => False) w w1) := ht1; have h9 := FE.out w1 ht1; clear ht1 hh)
          | (go_at_call 9; (with_reducible refine h9.mono ?_); rintro e w2 ⟨rfl, ht2⟩; have T2 : Hid (Turned (fun _ => False) w w2) := T1.out.trans ht2 (fun _ _ q => q); have h10 := FD.out w2; clear ht2 h9)
          | (go_at_call 10; (with_reducible refine h10.mono ?_); rintro e w3 ⟨ht3, v3, rfl, hs3⟩; obtain ⟨a3, cap3, rfl, -, -⟩ := hs3.value; have T3 : Hid (Turned (fun _ => False) w w3) := T2.out.trans ht3 (fun _ _ q => q); have h11 := SM.out w3 _ a3 cap3 hs3 T3.out; clear ht3 h10 hs3)
          | (go_at_call 11; (with_reducible refine h11.mono ?_); rintro e w4 ⟨rfl, ht4⟩; obtain ⟨cap5, w5, hconv, ht5, hlt5, hcap5, hcell, hfrz, cur, hcur, hcsz⟩ := bytes_of w4 s; have c0 : w5.cell? ⟨w4.heap.size, k, none⟩ = some (.int .u8 (x.toNat : Nat)) := (hcell k x.toNat (by simp [nums, HX.out])); have f0 := hfrz k HKL.out; have hback := back_set (cap := cap5) hcur hcell k z; have T5 : Hid (Turned (fun _ => False) w (w5.setCell ⟨w4.heap.size, k, none⟩ (.int .u8 (z.toNat : Nat)))) := ((T3.out.trans ht4 (fun _ _ q => q)).trans ht5 (fun _ _ q => q)).comp (Turned.setCell (S := (· = w4.heap.size)) (p := ⟨w4.heap.size, k, none⟩) rfl _) (fun i hi q => q.elim (fun q => q) fun q => by have := T3.out.size; have := ht4.size; omega); have h10b := PS.out (w5.setCell ⟨w4.heap.size, k, none⟩ (.int .u8 (z.toNat : Nat))); clear ht4 ht5 hcell hfrz h11 hcur)
          | (go_at_call 10; (with_reducible refine h10b.mono ?_); rintro e w6 ⟨ht6, rfl⟩; have T6 : Hid (Turned (fun _ => False) w w6) := T5.out.trans ht6 (fun _ _ q => q); clear ht6 h10b)
          | (go_at_call 8; (with_reducible refine (hse _).mono ?_); rintro e w7 ⟨rfl, ht7⟩; have T7 : Hid (Turned (fun _ => False) w w7) := T6.out.trans ht7 (fun _ _ q => q); have h10c := D2.out w7; clear ht7)
          | (go_at_call 10; (with_reducible refine h10c.mono ?_); rintro e w8 ⟨ht8, rfl⟩; have T8 : Hid (Turned (fun _ => False) w w8) := T7.out.trans ht8 (fun _ _ q => q); clear ht8 h10c))
        go_ret
        exact ⟨rfl, T8.out⟩
      | ok m =>
        obtain ⟨hm1, -, hm2, hm3⟩ := dec_small S m hd2
        obtain ⟨M, hM⟩ : ∃ M, M = m.length := ⟨_, rfl⟩
        have D2 : Hid (∀ W, Calls Tryd.prog 10 #[.string S] W fun e w' => Turned (fun _ => False) W w' ∧ ∃ v, e = .returned (.tuple #[v, .int .i64 0]) ∧ Sl w' (fun b => W.heap.size ≤ b) 43 3 v (lcells m) M) := by
          have : ∀ W, Calls Tryd.prog 10 #[.string S] W fun e w' => Turned (fun _ => False) W w' ∧ ∃ v, e = .returned (.tuple #[v, .int .i64 0]) ∧ Sl w' (fun b => W.heap.size ≤ b) 43 3 v (lcells m) M := fun W => by
            have := DS.out W
            rw [hd2] at this
            rw [hM]
            exact this
          exact this
        have E2 : Hid (∀ W S1 (a : Option Addr) (cap : Nat), Sl W S1 43 3 (.slice a M cap) (lcells m) M → Calls Tryd.prog 9 #[.slice a M cap] W fun e w' => e = .returned (.tuple #[.string S, .int .i64 0]) ∧ Turned (fun _ => False) W w') := by
          have : ∀ W S1 (a : Option Addr) (cap : Nat), Sl W S1 43 3 (.slice a M cap) (lcells m) M → Calls Tryd.prog 9 #[.slice a M cap] W fun e w' => e = .returned (.tuple #[.string S, .int .i64 0]) ∧ Turned (fun _ => False) W w' := fun W S1 a cap h1 => by
            rw [hM] at h1 ⊢
            obtain ⟨a', cap', hv, hc1⟩ := sl_lnIs h1 hm1
            injection hv with e1 _ e3
            subst e1; subst e3
            have := encode_any a cap m W hc1
            rw [show encV m = .tuple #[.string S, .int .i64 0] by unfold encV; rw [if_pos hm2, hm3]] at this
            exact this
          exact this
        have C2 : Hid (∀ W S1 (a : Option Addr) (cap : Nat), Sl W S1 43 3 (.slice a M cap) (lcells m) M → Calls Tryd.prog 12 #[.slice a M cap] W fun e w' => e = .returned (.int .i64 0) ∧ Turned (fun _ => False) W w') := by
          have : ∀ W S1 (a : Option Addr) (cap : Nat), Sl W S1 43 3 (.slice a M cap) (lcells m) M → Calls Tryd.prog 12 #[.slice a M cap] W fun e w' => e = .returned (.int .i64 0) ∧ Turned (fun _ => False) W w' := fun W S1 a cap h1 => by
            rw [hM] at h1 ⊢
            obtain ⟨a', cap', hv, hc1⟩ := sl_lnIs h1 hm1
            injection hv with e1 _ e3
            subst e1; subst e3
            have := check_any a cap m W hc1
            rw [hm2] at this
            exact this
          exact this
        clear hd2 hm1 hm2 hm3 hM
        go_enter Tryd.func4, Tryd.ntmps4
        go_wp2_with (first
          | (go_at_call 6; (with_reducible refine hh.mono ?_); rintro e w1 ⟨rfl, ht1⟩; have T1 : Hid (Turned (fun _ => False) w w1) := ht1; have h9 := FE.out w1 ht1; clear ht1 hh)
          | (go_at_call 9; (with_reducible refine h9.mono ?_); rintro e w2 ⟨rfl, ht2⟩; have T2 : Hid (Turned (fun _ => False) w w2) := T1.out.trans ht2 (fun _ _ q => q); have h10 := FD.out w2; clear ht2 h9)
          | (go_at_call 10; (with_reducible refine h10.mono ?_); rintro e w3 ⟨ht3, v3, rfl, hs3⟩; obtain ⟨a3, cap3, rfl, -, -⟩ := hs3.value; have T3 : Hid (Turned (fun _ => False) w w3) := T2.out.trans ht3 (fun _ _ q => q); have h11 := SM.out w3 _ a3 cap3 hs3 T3.out; clear ht3 h10 hs3)
          | (go_at_call 11; (with_reducible refine h11.mono ?_); rintro e w4 ⟨rfl, ht4⟩; obtain ⟨cap5, w5, hconv, ht5, hlt5, hcap5, hcell, hfrz, cur, hcur, hcsz⟩ := bytes_of w4 s; have c0 : w5.cell? ⟨w4.heap.size, k, none⟩ = some (.int .u8 (x.toNat : Nat)) := (hcell k x.toNat (by simp [nums, HX.out])); have f0 := hfrz k HKL.out; have hback := back_set (cap := cap5) hcur hcell k z; have T5 : Hid (Turned (fun _ => False) w (w5.setCell ⟨w4.heap.size, k, none⟩ (.int .u8 (z.toNat : Nat)))) := ((T3.out.trans ht4 (fun _ _ q => q)).trans ht5 (fun _ _ q => q)).comp (Turned.setCell (S := (· = w4.heap.size)) (p := ⟨w4.heap.size, k, none⟩) rfl _) (fun i hi q => q.elim (fun q => q) fun q => by have := T3.out.size; have := ht4.size; omega); have h10b := PS.out (w5.setCell ⟨w4.heap.size, k, none⟩ (.int .u8 (z.toNat : Nat))); clear ht4 ht5 hcell hfrz h11 hcur)
          | (go_at_call 10; (with_reducible refine h10b.mono ?_); rintro e w6 ⟨ht6, rfl⟩; have T6 : Hid (Turned (fun _ => False) w w6) := T5.out.trans ht6 (fun _ _ q => q); clear ht6 h10b)
          | (go_at_call 8; (with_reducible refine (hse _).mono ?_); rintro e w7 ⟨rfl, ht7⟩; have T7 : Hid (Turned (fun _ => False) w w7) := T6.out.trans ht7 (fun _ _ q => q); have h10c := D2.out w7; clear ht7)
          | (go_at_call 10; (with_reducible refine h10c.mono ?_); rintro e w8 ⟨ht8, v8, rfl, hs8⟩; obtain ⟨a8, cap8, rfl, -, -⟩ := hs8.value; have T8 : Hid (Turned (fun _ => False) w w8) := T7.out.trans ht8 (fun _ _ q => q); have h9b := E2.out w8 _ a8 cap8 hs8; have S8 : Hid (Sl w8 (fun b => w7.heap.size ≤ b) 43 3 (.slice a8 M cap8) (lcells m) M) := hs8; clear ht8 h10c hs8)
          | (go_at_call 9; (with_reducible refine h9b.mono ?_); rintro e w9 ⟨rfl, ht9⟩; have T9 : Hid (Turned (fun _ => False) w w9) := T8.out.trans ht9 (fun _ _ q => q); have h12 := C2.out w9 _ a8 cap8 (S8.out.turned ht9 fun _ _ q => q); clear ht9 h9b)
          | (go_at_call 12; (with_reducible refine h12.mono ?_); rintro e w10 ⟨rfl, ht10⟩; have T10 : Hid (Turned (fun _ => False) w w10) := T9.out.trans ht10 (fun _ _ q => q); clear ht10 h12))
        go_ret
        exact ⟨rfl, T10.out⟩
    · have hps := HPS.out
      rw [if_neg hk5] at hps
      have PS : Hid (∀ W, Calls Tryd.prog 10 #[.string (setB s k z)] W fun e w' => Turned (fun _ => False) W w' ∧ e = .returned (.tuple #[.slice none 0 0, .int .i64 4])) := hps
      clear hps HPS hk5
      cases hd2 : decR S with
      | error k2 =>
        have hk2 := dec_err S k2 hd2
        have D2 : Hid (∀ W, Calls Tryd.prog 10 #[.string S] W fun e w' => Turned (fun _ => False) W w' ∧ e = .returned (.tuple #[.slice none 0 0, .int .i64 (k2 : Nat)])) := by
          have : ∀ W, Calls Tryd.prog 10 #[.string S] W fun e w' => Turned (fun _ => False) W w' ∧ e = .returned (.tuple #[.slice none 0 0, .int .i64 (k2 : Nat)]) := fun W => by
            have := DS.out W
            rw [hd2] at this
            exact this
          exact this
        have hk20 : ((k2 : Int) == 0) = false := by simp; omega
        clear hd2 hk2
        go_enter Tryd.func4, Tryd.ntmps4
        go_wp2_with (first
          | (go_at_call 6; (with_reducible refine hh.mono ?_); rintro e w1 ⟨rfl, ht1⟩; have T1 : Hid (Turned (fun _ => False) w w1) := ht1; have h9 := FE.out w1 ht1; clear ht1 hh)
          | (go_at_call 9; (with_reducible refine h9.mono ?_); rintro e w2 ⟨rfl, ht2⟩; have T2 : Hid (Turned (fun _ => False) w w2) := T1.out.trans ht2 (fun _ _ q => q); have h10 := FD.out w2; clear ht2 h9)
          | (go_at_call 10; (with_reducible refine h10.mono ?_); rintro e w3 ⟨ht3, v3, rfl, hs3⟩; obtain ⟨a3, cap3, rfl, -, -⟩ := hs3.value; have T3 : Hid (Turned (fun _ => False) w w3) := T2.out.trans ht3 (fun _ _ q => q); have h11 := SM.out w3 _ a3 cap3 hs3 T3.out; clear ht3 h10 hs3)
          | (go_at_call 11; (with_reducible refine h11.mono ?_); rintro e w4 ⟨rfl, ht4⟩; obtain ⟨cap5, w5, hconv, ht5, hlt5, hcap5, hcell, hfrz, cur, hcur, hcsz⟩ := bytes_of w4 s; have c0 : w5.cell? ⟨w4.heap.size, k, none⟩ = some (.int .u8 (x.toNat : Nat)) := (hcell k x.toNat (by simp [nums, HX.out])); have f0 := hfrz k HKL.out; have hback := back_set (cap := cap5) hcur hcell k z; have T5 : Hid (Turned (fun _ => False) w (w5.setCell ⟨w4.heap.size, k, none⟩ (.int .u8 (z.toNat : Nat)))) := ((T3.out.trans ht4 (fun _ _ q => q)).trans ht5 (fun _ _ q => q)).comp (Turned.setCell (S := (· = w4.heap.size)) (p := ⟨w4.heap.size, k, none⟩) rfl _) (fun i hi q => q.elim (fun q => q) fun q => by have := T3.out.size; have := ht4.size; omega); have h10b := PS.out (w5.setCell ⟨w4.heap.size, k, none⟩ (.int .u8 (z.toNat : Nat))); clear ht4 ht5 hcell hfrz h11 hcur)
          | (go_at_call 10; (with_reducible refine h10b.mono ?_); rintro e w6 ⟨ht6, rfl⟩; have T6 : Hid (Turned (fun _ => False) w w6) := T5.out.trans ht6 (fun _ _ q => q); clear ht6 h10b)
          | (go_at_call 8; (with_reducible refine (hse _).mono ?_); rintro e w7 ⟨rfl, ht7⟩; have T7 : Hid (Turned (fun _ => False) w w7) := T6.out.trans ht7 (fun _ _ q => q); have h10c := D2.out w7; clear ht7)
          | (go_at_call 10; (with_reducible refine h10c.mono ?_); rintro e w8 ⟨ht8, rfl⟩; have T8 : Hid (Turned (fun _ => False) w w8) := T7.out.trans ht8 (fun _ _ q => q); clear ht8 h10c))
        go_ret
        exact ⟨rfl, T8.out⟩
      | ok m =>
        obtain ⟨hm1, -, hm2, hm3⟩ := dec_small S m hd2
        obtain ⟨M, hM⟩ : ∃ M, M = m.length := ⟨_, rfl⟩
        have D2 : Hid (∀ W, Calls Tryd.prog 10 #[.string S] W fun e w' => Turned (fun _ => False) W w' ∧ ∃ v, e = .returned (.tuple #[v, .int .i64 0]) ∧ Sl w' (fun b => W.heap.size ≤ b) 43 3 v (lcells m) M) := by
          have : ∀ W, Calls Tryd.prog 10 #[.string S] W fun e w' => Turned (fun _ => False) W w' ∧ ∃ v, e = .returned (.tuple #[v, .int .i64 0]) ∧ Sl w' (fun b => W.heap.size ≤ b) 43 3 v (lcells m) M := fun W => by
            have := DS.out W
            rw [hd2] at this
            rw [hM]
            exact this
          exact this
        have E2 : Hid (∀ W S1 (a : Option Addr) (cap : Nat), Sl W S1 43 3 (.slice a M cap) (lcells m) M → Calls Tryd.prog 9 #[.slice a M cap] W fun e w' => e = .returned (.tuple #[.string S, .int .i64 0]) ∧ Turned (fun _ => False) W w') := by
          have : ∀ W S1 (a : Option Addr) (cap : Nat), Sl W S1 43 3 (.slice a M cap) (lcells m) M → Calls Tryd.prog 9 #[.slice a M cap] W fun e w' => e = .returned (.tuple #[.string S, .int .i64 0]) ∧ Turned (fun _ => False) W w' := fun W S1 a cap h1 => by
            rw [hM] at h1 ⊢
            obtain ⟨a', cap', hv, hc1⟩ := sl_lnIs h1 hm1
            injection hv with e1 _ e3
            subst e1; subst e3
            have := encode_any a cap m W hc1
            rw [show encV m = .tuple #[.string S, .int .i64 0] by unfold encV; rw [if_pos hm2, hm3]] at this
            exact this
          exact this
        have C2 : Hid (∀ W S1 (a : Option Addr) (cap : Nat), Sl W S1 43 3 (.slice a M cap) (lcells m) M → Calls Tryd.prog 12 #[.slice a M cap] W fun e w' => e = .returned (.int .i64 0) ∧ Turned (fun _ => False) W w') := by
          have : ∀ W S1 (a : Option Addr) (cap : Nat), Sl W S1 43 3 (.slice a M cap) (lcells m) M → Calls Tryd.prog 12 #[.slice a M cap] W fun e w' => e = .returned (.int .i64 0) ∧ Turned (fun _ => False) W w' := fun W S1 a cap h1 => by
            rw [hM] at h1 ⊢
            obtain ⟨a', cap', hv, hc1⟩ := sl_lnIs h1 hm1
            injection hv with e1 _ e3
            subst e1; subst e3
            have := check_any a cap m W hc1
            rw [hm2] at this
            exact this
          exact this
        clear hd2 hm1 hm2 hm3 hM
        go_enter Tryd.func4, Tryd.ntmps4
        go_wp2_with (first
          | (go_at_call 6; (with_reducible refine hh.mono ?_); rintro e w1 ⟨rfl, ht1⟩; have T1 : Hid (Turned (fun _ => False) w w1) := ht1; have h9 := FE.out w1 ht1; clear ht1 hh)
          | (go_at_call 9; (with_reducible refine h9.mono ?_); rintro e w2 ⟨rfl, ht2⟩; have T2 : Hid (Turned (fun _ => False) w w2) := T1.out.trans ht2 (fun _ _ q => q); have h10 := FD.out w2; clear ht2 h9)
          | (go_at_call 10; (with_reducible refine h10.mono ?_); rintro e w3 ⟨ht3, v3, rfl, hs3⟩; obtain ⟨a3, cap3, rfl, -, -⟩ := hs3.value; have T3 : Hid (Turned (fun _ => False) w w3) := T2.out.trans ht3 (fun _ _ q => q); have h11 := SM.out w3 _ a3 cap3 hs3 T3.out; clear ht3 h10 hs3)
          | (go_at_call 11; (with_reducible refine h11.mono ?_); rintro e w4 ⟨rfl, ht4⟩; obtain ⟨cap5, w5, hconv, ht5, hlt5, hcap5, hcell, hfrz, cur, hcur, hcsz⟩ := bytes_of w4 s; have c0 : w5.cell? ⟨w4.heap.size, k, none⟩ = some (.int .u8 (x.toNat : Nat)) := (hcell k x.toNat (by simp [nums, HX.out])); have f0 := hfrz k HKL.out; have hback := back_set (cap := cap5) hcur hcell k z; have T5 : Hid (Turned (fun _ => False) w (w5.setCell ⟨w4.heap.size, k, none⟩ (.int .u8 (z.toNat : Nat)))) := ((T3.out.trans ht4 (fun _ _ q => q)).trans ht5 (fun _ _ q => q)).comp (Turned.setCell (S := (· = w4.heap.size)) (p := ⟨w4.heap.size, k, none⟩) rfl _) (fun i hi q => q.elim (fun q => q) fun q => by have := T3.out.size; have := ht4.size; omega); have h10b := PS.out (w5.setCell ⟨w4.heap.size, k, none⟩ (.int .u8 (z.toNat : Nat))); clear ht4 ht5 hcell hfrz h11 hcur)
          | (go_at_call 10; (with_reducible refine h10b.mono ?_); rintro e w6 ⟨ht6, rfl⟩; have T6 : Hid (Turned (fun _ => False) w w6) := T5.out.trans ht6 (fun _ _ q => q); clear ht6 h10b)
          | (go_at_call 8; (with_reducible refine (hse _).mono ?_); rintro e w7 ⟨rfl, ht7⟩; have T7 : Hid (Turned (fun _ => False) w w7) := T6.out.trans ht7 (fun _ _ q => q); have h10c := D2.out w7; clear ht7)
          | (go_at_call 10; (with_reducible refine h10c.mono ?_); rintro e w8 ⟨ht8, v8, rfl, hs8⟩; obtain ⟨a8, cap8, rfl, -, -⟩ := hs8.value; have T8 : Hid (Turned (fun _ => False) w w8) := T7.out.trans ht8 (fun _ _ q => q); have h9b := E2.out w8 _ a8 cap8 hs8; have S8 : Hid (Sl w8 (fun b => w7.heap.size ≤ b) 43 3 (.slice a8 M cap8) (lcells m) M) := hs8; clear ht8 h10c hs8)
          | (go_at_call 9; (with_reducible refine h9b.mono ?_); rintro e w9 ⟨rfl, ht9⟩; have T9 : Hid (Turned (fun _ => False) w w9) := T8.out.trans ht9 (fun _ _ q => q); have h12 := C2.out w9 _ a8 cap8 (S8.out.turned ht9 fun _ _ q => q); clear ht9 h9b)
          | (go_at_call 12; (with_reducible refine h12.mono ?_); rintro e w10 ⟨rfl, ht10⟩; have T10 : Hid (Turned (fun _ => False) w w10) := T9.out.trans ht10 (fun _ _ q => q); clear ht10 h12))
        go_ret
        exact ⟨rfl, T10.out⟩
  · have hbv : encV l = .tuple #[.string ⟨#[]⟩, .int .i64 (lnErr l : Nat)] := by unfold encV; rw [if_neg hbe]
    rw [hbv] at hE
    generalize lnErr l = be at *
    generalize l.length = L at *
    have FE : Hid (∀ W, Turned (fun _ => False) w W → Calls Tryd.prog 9 #[.slice a L cap] W fun e w' => e = .returned (.tuple #[.string ⟨#[]⟩, .int .i64 (be : Nat)]) ∧ Turned (fun _ => False) W w') := hE
    have hd5 : ((be : Int) == 0) = false := by simp; omega
    clear hE hbv h hbe hln
    cases hd2 : decR S with
    | error k2 =>
      have hk2 := dec_err S k2 hd2
      have D2 : Hid (∀ W, Calls Tryd.prog 10 #[.string S] W fun e w' => Turned (fun _ => False) W w' ∧ e = .returned (.tuple #[.slice none 0 0, .int .i64 (k2 : Nat)])) := by
        have : ∀ W, Calls Tryd.prog 10 #[.string S] W fun e w' => Turned (fun _ => False) W w' ∧ e = .returned (.tuple #[.slice none 0 0, .int .i64 (k2 : Nat)]) := fun W => by
          have := DS.out W
          rw [hd2] at this
          exact this
        exact this
      have hk20 : ((k2 : Int) == 0) = false := by simp; omega
      clear hd2 hk2
      go_enter Tryd.func4, Tryd.ntmps4
      go_wp2_with (first
        | (go_at_call 6; (with_reducible refine hh.mono ?_); rintro e w1 ⟨rfl, ht1⟩; have T1 : Hid (Turned (fun _ => False) w w1) := ht1; have h9 := FE.out w1 ht1; clear ht1 hh)
        | (go_at_call 9; (with_reducible refine h9.mono ?_); rintro e w2 ⟨rfl, ht2⟩; have T2 : Hid (Turned (fun _ => False) w w2) := T1.out.trans ht2 (fun _ _ q => q); clear ht2 h9)
        | (go_at_call 8; (with_reducible refine (hse _).mono ?_); rintro e w7 ⟨rfl, ht7⟩; have T7 : Hid (Turned (fun _ => False) w w7) := T2.out.trans ht7 (fun _ _ q => q); have h10c := D2.out w7; clear ht7)
        | (go_at_call 10; (with_reducible refine h10c.mono ?_); rintro e w8 ⟨ht8, rfl⟩; have T8 : Hid (Turned (fun _ => False) w w8) := T7.out.trans ht8 (fun _ _ q => q); clear ht8 h10c))
      go_ret
      exact ⟨rfl, T8.out⟩
    | ok m =>
      obtain ⟨hm1, -, hm2, hm3⟩ := dec_small S m hd2
      obtain ⟨M, hM⟩ : ∃ M, M = m.length := ⟨_, rfl⟩
      have D2 : Hid (∀ W, Calls Tryd.prog 10 #[.string S] W fun e w' => Turned (fun _ => False) W w' ∧ ∃ v, e = .returned (.tuple #[v, .int .i64 0]) ∧ Sl w' (fun b => W.heap.size ≤ b) 43 3 v (lcells m) M) := by
        have : ∀ W, Calls Tryd.prog 10 #[.string S] W fun e w' => Turned (fun _ => False) W w' ∧ ∃ v, e = .returned (.tuple #[v, .int .i64 0]) ∧ Sl w' (fun b => W.heap.size ≤ b) 43 3 v (lcells m) M := fun W => by
          have := DS.out W
          rw [hd2] at this
          rw [hM]
          exact this
        exact this
      have E2 : Hid (∀ W S1 (a : Option Addr) (cap : Nat), Sl W S1 43 3 (.slice a M cap) (lcells m) M → Calls Tryd.prog 9 #[.slice a M cap] W fun e w' => e = .returned (.tuple #[.string S, .int .i64 0]) ∧ Turned (fun _ => False) W w') := by
        have : ∀ W S1 (a : Option Addr) (cap : Nat), Sl W S1 43 3 (.slice a M cap) (lcells m) M → Calls Tryd.prog 9 #[.slice a M cap] W fun e w' => e = .returned (.tuple #[.string S, .int .i64 0]) ∧ Turned (fun _ => False) W w' := fun W S1 a cap h1 => by
          rw [hM] at h1 ⊢
          obtain ⟨a', cap', hv, hc1⟩ := sl_lnIs h1 hm1
          injection hv with e1 _ e3
          subst e1; subst e3
          have := encode_any a cap m W hc1
          rw [show encV m = .tuple #[.string S, .int .i64 0] by unfold encV; rw [if_pos hm2, hm3]] at this
          exact this
        exact this
      have C2 : Hid (∀ W S1 (a : Option Addr) (cap : Nat), Sl W S1 43 3 (.slice a M cap) (lcells m) M → Calls Tryd.prog 12 #[.slice a M cap] W fun e w' => e = .returned (.int .i64 0) ∧ Turned (fun _ => False) W w') := by
        have : ∀ W S1 (a : Option Addr) (cap : Nat), Sl W S1 43 3 (.slice a M cap) (lcells m) M → Calls Tryd.prog 12 #[.slice a M cap] W fun e w' => e = .returned (.int .i64 0) ∧ Turned (fun _ => False) W w' := fun W S1 a cap h1 => by
          rw [hM] at h1 ⊢
          obtain ⟨a', cap', hv, hc1⟩ := sl_lnIs h1 hm1
          injection hv with e1 _ e3
          subst e1; subst e3
          have := check_any a cap m W hc1
          rw [hm2] at this
          exact this
        exact this
      clear hd2 hm1 hm2 hm3 hM
      go_enter Tryd.func4, Tryd.ntmps4
      go_wp2_with (first
        | (go_at_call 6; (with_reducible refine hh.mono ?_); rintro e w1 ⟨rfl, ht1⟩; have T1 : Hid (Turned (fun _ => False) w w1) := ht1; have h9 := FE.out w1 ht1; clear ht1 hh)
        | (go_at_call 9; (with_reducible refine h9.mono ?_); rintro e w2 ⟨rfl, ht2⟩; have T2 : Hid (Turned (fun _ => False) w w2) := T1.out.trans ht2 (fun _ _ q => q); clear ht2 h9)
        | (go_at_call 8; (with_reducible refine (hse _).mono ?_); rintro e w7 ⟨rfl, ht7⟩; have T7 : Hid (Turned (fun _ => False) w w7) := T2.out.trans ht7 (fun _ _ q => q); have h10c := D2.out w7; clear ht7)
        | (go_at_call 10; (with_reducible refine h10c.mono ?_); rintro e w8 ⟨ht8, v8, rfl, hs8⟩; obtain ⟨a8, cap8, rfl, -, -⟩ := hs8.value; have T8 : Hid (Turned (fun _ => False) w w8) := T7.out.trans ht8 (fun _ _ q => q); have h9b := E2.out w8 _ a8 cap8 hs8; have S8 : Hid (Sl w8 (fun b => w7.heap.size ≤ b) 43 3 (.slice a8 M cap8) (lcells m) M) := hs8; clear ht8 h10c hs8)
        | (go_at_call 9; (with_reducible refine h9b.mono ?_); rintro e w9 ⟨rfl, ht9⟩; have T9 : Hid (Turned (fun _ => False) w w9) := T8.out.trans ht9 (fun _ _ q => q); have h12 := C2.out w9 _ a8 cap8 (S8.out.turned ht9 fun _ _ q => q); clear ht9 h9b)
        | (go_at_call 12; (with_reducible refine h12.mono ?_); rintro e w10 ⟨rfl, ht10⟩; have T10 : Hid (Turned (fun _ => False) w w10) := T9.out.trans ht10 (fun _ _ q => q); clear ht10 h12))
      go_ret
      exact ⟨rfl, T10.out⟩
end Go.Proofs.YtfeljngmidhajaaDoor
