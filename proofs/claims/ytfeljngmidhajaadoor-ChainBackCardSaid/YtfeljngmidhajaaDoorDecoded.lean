/- A text is read as the document says; what was read is new memory. -/
import Derived.Test.YtfeljngmidhajaaDoorLnQ
import Derived.Test.YtfeljngmidhajaaDoorLnT
import Derived.Test.YtfeljngmidhajaaDoorSlSet
namespace Go.Proofs.YtfeljngmidhajaaDoor
open Go.RowKit Go.Mine

theorem dec_small (t : ByteArray) (l : List Ln) (h : decR t = .ok l) : LnOk l ∧ l.length ≤ 16 ∧ lnErr l = 0 ∧ toldLn l = t := by
  rw [dec_same] at h
  unfold rdecR at h
  split at h
  · simp at h
  split at h
  · simp at h
  · rename_i h3
    have hl : readL t = l := by simpa using h
    rw [hl] at h3
    have hbe : lnErr l = 0 := Classical.byContradiction fun q => h3 (.inl q)
    have hbt : toldLn l = t := Classical.byContradiction fun q => h3 (.inr q)
    refine ⟨?_, by have := (lnErr_ok l hbe).1; omega, hbe, hbt⟩
    rw [← hl]
    exact readL_lt t

def SpRel (w : World) (S : Nat → Prop) (v : Value) (n : Nat) (g : Nat) (i : Value) (wr : World) : Prop :=
  ∃ (k : Nat) (xs : List Value), k + g = n ∧ i = .int .i64 k ∧ Sl wr S 43 3 v xs n ∧ Turned S w wr

theorem src_m4 (w : World) : Src Tryd.prog 3 25 (.slice (some ⟨w.heap.size, 0, none⟩) 1 1) 1 [.int .i64 (-4), .int .i64 0, .int .u32 0] (w.alloc (.cells #[.int .i64 (-4), .int .i64 0, .int .u32 0] 43)) := src_ln (-4, 0, 0) w

set_option maxRecDepth 100000 in
set_option maxHeartbeats 4000000 in
theorem decoded_any (t : ByteArray) (w : World) (hs : t.size ≤ 4611686018427387904) : Calls Tryd.prog 7 #[.string t] w fun e w' => e = .returned (.bool true) ∧ Turned (fun _ => False) w w' := by
  have hP1 := fun W => decode_any t W hs
  have hP2 := fun W => rdecode_any t W hs
  rw [← dec_same] at hP2
  have hsm := dec_small t
  cases hR : decR t with
  | error k =>
    rw [hR] at hP1 hP2
    have P1 : Hid (∀ W, Calls Tryd.prog 10 #[.string t] W fun e w' => Turned (fun _ => False) W w' ∧ e = .returned (.tuple #[.slice none 0 0, .int .i64 (k : Nat)])) := hP1
    have P2 : Hid (∀ W, Calls Tryd.prog 18 #[.string t] W fun e w' => Turned (fun _ => False) W w' ∧ e = .returned (.tuple #[.slice none 0 0, .int .i64 (k : Nat)])) := hP2
    have SM : Hid (∀ W, Calls Tryd.prog 11 #[.slice none 0 0, .slice none 0 0] W fun e w' => e = .returned (.bool true) ∧ Turned (fun _ => False) W w') := fun W => same_list none none 0 0 [] W ⟨Nat.le_refl _, by simp [maxLen], fun c hc => by simp at hc, fun h => by simp at h⟩ ⟨Nat.le_refl _, by simp [maxLen], fun c hc => by simp at hc, fun h => by simp at h⟩
    have h10 := P1.out w
    have m1 : Hid (0 + 1 ≤ maxLen ∧ (0 + 1) * 24 ≤ 140737488355328) := (by simp [maxLen] : 0 + 1 ≤ maxLen ∧ (0 + 1) * 24 ≤ 140737488355328)
    clear hP1 hP2 hs hsm hR
    go_enter Tryd.func7, Tryd.ntmps7
    go_wp2_with (first
      | (go_at_call 10; (with_reducible refine h10.mono ?_); rintro e w1 ⟨ht1, rfl⟩; have T1 : Hid (Turned (fun _ => False) w w1) := ht1; have h18 := P2.out w1; clear ht1 h10)
      | (go_at_call 18; (with_reducible refine h18.mono ?_); rintro e w2 ⟨ht2, rfl⟩; have T2 : Hid (Turned (fun _ => False) w w2) := T1.out.trans ht2 (fun _ _ q => q); have h11 := SM.out w2; clear ht2 h18)
      | (go_at_call 11; (with_reducible refine h11.mono ?_); rintro e w3 ⟨rfl, ht3⟩; have T3 : Hid (Turned (fun _ => False) w w3) := T2.out.trans ht3 (fun _ _ q => q); clear ht3 h11))
    go_loopg [31] 0 (fun g i wr => i = .int .i64 0 ∧ w3 = wr)
    case atStart => exact ⟨rfl, rfl⟩
    case round =>
      obtain ⟨rfl, rfl⟩ := hrel
      go_wp2_with (first
        | (at_builtin; refine wpList_append rfl _ _ 25 25 rfl (Sl.nil _ (fun _ => False) 43 3) Tryd.underlying25 info43 rfl (by decide) rfl (.slice (some ⟨w3.heap.size, 0, none⟩) 1 1) rfl (src_m4 w3) m1.out.1 m1.out.2 ?_; intro x4 w4 q1 t1; have T4 : Hid (Turned (fun _ => False) w w4) := (T3.out.new _).trans t1 (fun _ _ q => q); have h10 := P1.out w4; clear q1 t1)
        | (go_at_call 10; (with_reducible refine h10.mono ?_); rintro e w5 ⟨ht5, rfl⟩; have T5 : Hid (Turned (fun _ => False) w w5) := T4.out.trans ht5 (fun _ _ q => q); have h11 := SM.out w5; clear ht5 h10)
        | (go_at_call 11; (with_reducible refine h11.mono ?_); rintro e w6 ⟨rfl, ht6⟩; have T6 : Hid (Turned (fun _ => False) w w6) := T5.out.trans ht6 (fun _ _ q => q); clear ht6 h11))
      go_ret
      exact ⟨rfl, T6.out⟩
  | ok l =>
    obtain ⟨hsl, hl16, -, -⟩ := hsm l hR
    rw [hR] at hP1 hP2
    have P1 : Hid (∀ W, Calls Tryd.prog 10 #[.string t] W fun e w' => Turned (fun _ => False) W w' ∧ ∃ v, e = .returned (.tuple #[v, .int .i64 0]) ∧ Sl w' (fun b => W.heap.size ≤ b) 43 3 v (lcells l) l.length) := hP1
    have P2 : Hid (∀ W, Calls Tryd.prog 18 #[.string t] W fun e w' => Turned (fun _ => False) W w' ∧ ∃ v, e = .returned (.tuple #[v, .int .i64 0]) ∧ Sl w' (fun b => W.heap.size ≤ b) 43 3 v (lcells l) l.length) := hP2
    have SM : Hid (∀ W S1 S2 (a b : Option Addr) (cap cap2 : Nat), Sl W S1 43 3 (.slice a l.length cap) (lcells l) l.length → Sl W S2 43 3 (.slice b l.length cap2) (lcells l) l.length →
        Calls Tryd.prog 11 #[.slice a l.length cap, .slice b l.length cap2] W fun e w' => e = .returned (.bool true) ∧ Turned (fun _ => False) W w') := fun W S1 S2 a b cap cap2 h1 h2 => by
      obtain ⟨a', cap', hv, hc1⟩ := sl_lnIs h1 hsl
      obtain ⟨b', cap2', hv2, hc2⟩ := sl_lnIs h2 hsl
      injection hv with e1 _ e3
      injection hv2 with e4 _ e6
      subst e1; subst e3; subst e4; subst e6
      exact same_list _ _ _ _ l W hc1 hc2
    obtain ⟨L, hL⟩ : ∃ L, L = l.length := ⟨_, rfl⟩
    rw [← hL] at P1 P2 SM hl16
    have H16 : Hid (L ≤ 16) := hl16
    have h10 := P1.out w
    have m1 : Hid (L + 1 ≤ maxLen ∧ (L + 1) * 24 ≤ 140737488355328) := (by simp only [maxLen]; omega : L + 1 ≤ maxLen ∧ (L + 1) * 24 ≤ 140737488355328)
    have HL : Hid (L = l.length) := hL
    clear hP1 hP2 hs hsm hR hsl hl16 hL
    go_enter Tryd.func7, Tryd.ntmps7
    go_wp2_with (first
      | (go_at_call 10; (with_reducible refine h10.mono ?_); rintro e w1 ⟨ht1, v1, rfl, hs1⟩; obtain ⟨a1, cap1, rfl, -, -⟩ := hs1.value; have T1 : Hid (Turned (fun _ => False) w w1 ∧ Sl w1 (fun b => w.heap.size ≤ b ∧ b < w1.heap.size) 43 3 (.slice a1 L cap1) (lcells l) L) := ⟨ht1, hs1.bound⟩; have h18 := P2.out w1; clear ht1 h10 hs1)
      | (go_at_call 18; (with_reducible refine h18.mono ?_); rintro e w2 ⟨ht2, v2, rfl, hs2⟩; obtain ⟨a2, cap2, rfl, -, -⟩ := hs2.value; have T2 : Hid (Turned (fun _ => False) w w2 ∧ Sl w2 (fun b => w.heap.size ≤ b ∧ b < w1.heap.size) 43 3 (.slice a1 L cap1) (lcells l) L ∧ Sl w2 (fun b => w1.heap.size ≤ b) 43 3 (.slice a2 L cap2) (lcells l) L) := ⟨T1.out.1.trans ht2 (fun _ _ q => q), T1.out.2.turned ht2 (fun _ _ q => q), hs2⟩; have h11 := SM.out w2 _ _ _ _ _ _ T2.out.2.1 T2.out.2.2; clear ht2 h18 hs2)
      | (go_at_call 11; (with_reducible refine h11.mono ?_); rintro e w3 ⟨rfl, ht3⟩; have T3 : Hid (Turned (fun _ => False) w w3 ∧ Sl w3 (fun b => w.heap.size ≤ b ∧ b < w1.heap.size) 43 3 (.slice a1 L cap1) (lcells l) L ∧ Sl w3 (fun b => w1.heap.size ≤ b) 43 3 (.slice a2 L cap2) (lcells l) L) := ⟨T2.out.1.trans ht3 (fun _ _ q => q), T2.out.2.1.turned ht3 (fun _ _ q => q), T2.out.2.2.turned ht3 (fun _ _ q => q)⟩; clear ht3 h11))
    have HS0 : Hid (SpRel w3 (fun b => w.heap.size ≤ b ∧ b < w1.heap.size) (.slice a1 L cap1) L L (.int .i64 0) w3) := ⟨0, _, by omega, rfl, T3.out.2.1, Turned.refl _ _⟩
    go_loopg [31] L (fun g i wr => SpRel w3 (fun b => w.heap.size ≤ b ∧ b < w1.heap.size) (.slice a1 L cap1) L g i wr)
    case atStart => exact HS0.out
    case round =>
      obtain ⟨k, xs, hkg, rfl, hsx, htx⟩ := hrel
      have G : Hid (k + gk = L) := hkg
      have SX : Hid (Sl wr (fun b => w.heap.size ≤ b ∧ b < w1.heap.size) 43 3 (.slice a1 L cap1) xs L) := hsx
      have TX : Hid (Turned (fun b => w.heap.size ≤ b ∧ b < w1.heap.size) w3 wr) := htx
      clear hkg hsx htx HS0
      by_cases hlt : k < L
      · obtain ⟨g, off, cp, hv, hS, -, -, hcl, hfr, hgl⟩ := SX.out.opens (by omega)
        injection hv with e1 e2 e3
        subst e1
        subst e3
        have hxl := SX.out.1
        have c0 := (hcl (k * 3) (by omega)).trans (List.getElem?_eq_getElem (by omega))
        have c1 := (hcl (k * 3 + 1) (by omega)).trans (List.getElem?_eq_getElem (by omega))
        have c2 := (hcl (k * 3 + 2) (by omega)).trans (List.getElem?_eq_getElem (by omega))
        have f0 := hfr (off + k * 3)
        have f1 := hfr (off + k * 3 + 1)
        have f2 := hfr (off + k * 3 + 2)
        rw [← Nat.add_assoc] at c1 c2
        generalize xs[k * 3] = x0 at c0
        generalize xs[k * 3 + 1] = x1 at c1
        generalize xs[k * 3 + 2] = x2 at c2
        clear hcl hfr hxl e2
        go_wp2
        go_roundg (gk - 1)
        case measure => have := G.out; omega
        case rel =>
          have hgk := G.out
          obtain ⟨q1, q2, q3⟩ := SX.out.set (k * 3) (by omega) (.int .i64 (-3))
          obtain ⟨r1, r2, r3⟩ := q1.set (k * 3 + 1) (by omega) (.int .i64 0)
          obtain ⟨s1, s2, s3⟩ := r1.set (k * 3 + 2) (by omega) (.int .u32 0)
          rw [← Nat.add_assoc] at r1 r2 r3 s1 s2 s3
          rw [← Nat.add_assoc] at s1 s2 s3
          exact ⟨k + 1, _, by omega, by have := H16.out; simp [wrap64]; omega, s1, ((TX.out.trans q2 fun _ _ q => q).trans r2 fun _ _ q => q).trans s2 fun _ _ q => q⟩
      · have hk : k = L := by have := G.out; omega
        subst hk
        have A1 : Hid (Sl (wr.alloc (.cells #[.int .i64 (-4), .int .i64 0, .int .u32 0] 43)) (fun b => w.heap.size ≤ b ∧ b < w1.heap.size) 43 3 (.slice a1 k cap1) xs k) := SX.out.turned (Turned.alloc (fun _ => False) wr _) fun _ _ q => q
        have B3 : Hid (Sl wr (fun b => w1.heap.size ≤ b) 43 3 (.slice a2 k cap2) (lcells l) k) := T3.out.2.2.turned TX.out fun b q z => by omega
        clear hlt
        go_wp2_with (first
          | (at_builtin; refine wpList_append rfl _ _ 25 25 rfl A1.out Tryd.underlying25 info43 rfl (by decide) rfl (.slice (some ⟨wr.heap.size, 0, none⟩) 1 1) rfl (src_m4 wr) m1.out.1 m1.out.2 ?_; intro x4 w4 q1 t1; have T4 : Hid (Turned (fun b => w.heap.size ≤ b ∧ b < w1.heap.size) wr w4) := (Turned.alloc (fun b => w.heap.size ≤ b ∧ b < w1.heap.size) wr _).trans t1 (fun _ _ q => q); have B4 : Hid (Sl w4 (fun b => w1.heap.size ≤ b) 43 3 (.slice a2 k cap2) (lcells l) k) := B3.out.turned T4.out (fun b q z => by omega); have h10 := P1.out w4; clear q1 t1)
          | (go_at_call 10; (with_reducible refine h10.mono ?_); rintro e w5 ⟨ht5, v5, rfl, hs5⟩; obtain ⟨a5, cap5, rfl, -, -⟩ := hs5.value; have T5 : Hid (Turned (fun _ => False) w4 w5) := ht5; have h11 := SM.out w5 _ _ _ _ _ _ hs5 (B4.out.turned T5.out fun _ _ q => q); clear ht5 h10 hs5)
          | (go_at_call 11; (with_reducible refine h11.mono ?_); rintro e w6 ⟨rfl, ht6⟩))
        go_ret
        have z1 := T1.out.1.size
        have k1 : Turned (fun _ => False) w w4 := (T3.out.1.comp TX.out (T := fun _ => False) fun i hi q => q.elim (fun q => q) fun q => by omega).comp T4.out fun i hi q => q.elim (fun q => q) fun q => by omega
        exact ⟨rfl, (k1.trans T5.out fun _ _ q => q).trans ht6 fun _ _ q => q⟩
end Go.Proofs.YtfeljngmidhajaaDoor
