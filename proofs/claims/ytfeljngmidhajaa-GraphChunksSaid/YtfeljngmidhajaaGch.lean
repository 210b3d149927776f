/- Graph files read: the walk of the statement on chunks. -/
import Derived.Test.YtfeljngmidhajaaMh
namespace Go.Proofs.Ytfeljngmidhajaa
open Go.RowKit Go.Mine

def GchRel (w1 : World) (n : Nat) (g : Nat) (z i : Value) (wr : World) : Prop :=
  ∃ k s : Nat, k + g = n ∧ i = .int .i64 k ∧ z = .int .i64 s ∧ s ≤ 1048576 ∧ Turned (fun _ => False) w1 wr

set_option maxRecDepth 100000 in
set_option maxHeartbeats 4000000 in
theorem gchunks_law (a : Option Addr) (cap : Nat) (l : List Ch) (w : World) (h : ChIs w a cap l) :
    Calls Try.prog 12 #[.slice a l.length cap] w fun e w' => e = .returned (.bool true) ∧ Turned (fun _ => False) w w' := by
  have f22 := tells_any w
  have HC : Hid (ChIs w a cap l) := h
  have hB : ∀ W, Turned (fun _ => False) w W → Calls Try.prog 18 #[.slice a l.length cap] W fun e w' => e = .returned (buildV l) ∧ Turned (fun _ => False) W w' := fun W q => rbuild_any a cap l W (h.turned q)
  obtain ⟨s, k, hV, hk⟩ : ∃ (s : ByteArray) (k : Nat), buildV l = .tuple #[.string s, .int .i64 (k : Nat)] ∧ (k = 0 → s.size ≤ 4611686018427387904) := by
    unfold buildV
    split
    · rename_i he
      refine ⟨_, 0, rfl, fun _ => ?_⟩
      have h1 := built_size l
      have h2 := ((buildErr_iff l).1 he).2.2
      omega
    · rename_i he
      exact ⟨_, _, rfl, fun q => absurd q he⟩
  rw [hV] at hB
  have HB : Hid (∀ W, Turned (fun _ => False) w W → Calls Try.prog 18 #[.slice a l.length cap] W fun e w' => e = .returned (.tuple #[.string s, .int .i64 (k : Nat)]) ∧ Turned (fun _ => False) W w') := hB
  have HD : Hid (k = 0 → ∀ W, Calls Try.prog 35 #[.string s] W fun e w' => e = .returned (.bool true) ∧ Turned (fun _ => False) W w') := fun q W => decoded_any s W (hk q)
  obtain ⟨n, hn⟩ : ∃ n, n = l.length := ⟨_, rfl⟩
  rw [← hn] at HB ⊢
  have HN : Hid (n = l.length ∧ n ≤ 9223372036854775807) := ⟨hn, by have h1 := h.1; have h2 := h.2.1; simp only [maxLen] at h2; omega⟩
  clear hB hV hk hn h
  go_enter Try.func12, Try.ntmps12
  go_wp2_with (first
    | (go_at_call 22; (with_reducible refine f22.mono ?_); rintro e w1 ⟨rfl, ht1⟩; have T1 : Hid (Turned (fun _ => False) w w1) := ht1; clear ht1 f22))
  go_loopg [3, 12] n (fun g z i wr => GchRel w1 n g z i wr)
  case atStart => exact ⟨0, 0, by omega, rfl, rfl, by omega, Turned.refl _ _⟩
  case round =>
    obtain ⟨j, z, hjg, rfl, rfl, hz, ht⟩ := hrel
    have G : Hid (j + gk = n ∧ z ≤ 1048576) := ⟨hjg, hz⟩
    have T : Hid (Turned (fun _ => False) w1 wr) := ht
    clear hjg hz ht
    by_cases hlt : j < n
    · have q1 : decide ((j : Int) < (n : Int)) = true := decide_eq_true (by omega)
      have q2 : decide (j < n) = true := decide_eq_true hlt
      obtain ⟨c, hc⟩ : ∃ c, l[j]? = some c := ⟨_, List.getElem?_eq_getElem (by have := HN.out.1; omega)⟩
      have hcr := HC.out.turned (T1.out.trans T.out fun _ _ q => q)
      obtain ⟨b, off, rfl, hbl, hcl⟩ := hcr.2.2.2 (by have := (List.getElem?_eq_some_iff.1 hc).1; omega)
      obtain ⟨c0, c1⟩ := hcl j c hc
      obtain ⟨i0, d⟩ := c
      have hd : d.size ≤ 140737488355328 := (hcr.2.2.1 _ (List.mem_of_getElem? hc)).2
      obtain ⟨z2, hz2⟩ : ∃ z2, z2 = z + d.size := ⟨_, rfl⟩
      have hw : wrap64 ((z : Int) + (d.size : Int)) = (z2 : Int) := by have := G.out; simp [wrap64]; omega
      have Z2 : Hid (z2 = z + d.size) := hz2
      simp only at c0 c1
      clear hcr hcl hc hd hz2
      have HLT : Hid (j < n) := hlt
      by_cases hb : 1048576 < z2
      · have q3 : decide ((1048576 : Int) < (z2 : Int)) = true := decide_eq_true (by omega)
        have q4 : decide (1048576 < z2) = true := decide_eq_true hb
        clear hb hlt
        go_wp2
        go_ret
        exact ⟨rfl, (T1.out.trans T.out fun _ _ q => q).new _⟩
      · have q3 : decide ((1048576 : Int) < (z2 : Int)) = false := decide_eq_false (by omega)
        have q4 : decide (1048576 < z2) = false := decide_eq_false hb
        have HZ : Hid (z2 ≤ 1048576) := (by omega : z2 ≤ 1048576)
        clear hb hlt
        go_wp2
        go_roundg (gk - 1)
        case measure => have := G.out; have := HLT.out; omega
        case rel =>
          have h1 := G.out
          have h2 := HLT.out
          have h3 := HN.out.2
          refine ⟨j + 1, z2, by omega, ?_, ?_, HZ.out, T.out.new _⟩
          · have : wrap64 ((j : Int) + 1) = ((j + 1 : Nat) : Int) := by simp [wrap64]; omega
            rw [this]
          · first | rfl | rw [hw]
    · have q1 : decide ((j : Int) < (n : Int)) = false := decide_eq_false (by omega)
      have q2 : decide (j < n) = false := decide_eq_false hlt
      have h18 := HB.out wr (T1.out.trans T.out fun _ _ q => q)
      clear hlt
      by_cases hk : k = 0
      · have hdc := HD.out hk
        subst hk
        go_wp2_with (first
          | (go_at_call 18; (with_reducible refine h18.mono ?_); rintro e w2 ⟨rfl, ht2⟩; have h35 := hdc w2)
          | (go_at_call 35; (with_reducible refine h35.mono ?_); rintro e w3 ⟨rfl, ht3⟩; have T3 : Hid (Turned (fun _ => False) w w3) := ((T1.out.trans T.out fun _ _ q => q).trans ht2 fun _ _ q => q).trans ht3 fun _ _ q => q; clear ht3 h35))
        go_ret
        exact ⟨rfl, T3.out⟩
      · have hd := int_neb (k : Int) 0 (by omega)
        have hd2 := int_bne2 (k : Int) 0 (by omega)
        clear hk
        go_wp2_with (first
          | (go_at_call 18; (with_reducible refine h18.mono ?_); rintro e w2 ⟨rfl, ht2⟩))
        go_ret
        exact ⟨rfl, (T1.out.trans T.out fun _ _ q => q).trans ht2 fun _ _ q => q⟩
end Go.Proofs.Ytfeljngmidhajaa
