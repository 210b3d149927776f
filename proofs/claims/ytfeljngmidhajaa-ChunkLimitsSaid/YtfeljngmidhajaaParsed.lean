/- A text is read as the document says; what was read is new memory. -/
import Derived.Test.YtfeljngmidhajaaPlaw
namespace Go.Proofs.Ytfeljngmidhajaa
open Go.RowKit Go.Mine

theorem parse_small (t : ByteArray) (l : List Ch) (h : parseR t = .ok l) : Small l ∧ l.length ≤ 16 ∧ buildErr l = 0 ∧ built l = t ∧ Rising l := by
  rw [parse_same] at h
  unfold rparseR at h
  split at h
  · simp at h
  split at h
  · simp at h
  split at h
  · simp at h
  · rename_i h3
    split at h
    · simp at h
    · rename_i h4
      have hl : readT (t.extract 5 (t.size - 4)) = l := by simpa using h
      rw [hl] at h3 h4
      have hbe : buildErr l = 0 := Classical.byContradiction fun q => h3 (.inl q)
      have hbt : built l = t := Classical.byContradiction fun q => h3 (.inr q)
      have hr : Rising l := Classical.byContradiction fun q => h4 q
      obtain ⟨b1, b2, b3⟩ := (buildErr_iff l).1 hbe
      refine ⟨fun c hc => ⟨?_, ?_⟩, b1, hbe, hbt, hr⟩
      · rw [← hl] at hc; exact readT_lt _ c hc
      · have := size_le_data l c hc; omega

def SpRel (w : World) (S : Nat → Prop) (v : Value) (n : Nat) (g : Nat) (i : Value) (wr : World) : Prop :=
  ∃ (k : Nat) (xs : List Value), k + g = n ∧ i = .int .i64 k ∧ Sl wr S 31 2 v xs n ∧ Turned S w wr

theorem src_97 (w : World) : Src Try.prog 2 22 (.slice (some ⟨w.heap.size, 0, none⟩) 1 1) 1 [.int .u32 97, .string ⟨#[]⟩] (w.alloc (.cells #[.int .u32 97, .string ⟨#[]⟩] 31)) := src_ch (97, ⟨#[]⟩) w

set_option maxRecDepth 100000 in
set_option maxHeartbeats 4000000 in
theorem parsed_any (t : ByteArray) (w : World) (hs : t.size ≤ 4611686018427387904) : Calls Try.prog 30 #[.string t] w fun e w' => e = .returned (.bool true) ∧ Turned (fun _ => False) w w' := by
  have hP1 := fun W => parse_any t W hs
  have hP2 := fun W => rparse_any t W hs
  rw [← parse_same] at hP2
  have hsm := parse_small t
  cases hR : parseR t with
  | error k =>
    rw [hR] at hP1 hP2
    have P1 : Hid (∀ W, Calls Try.prog 29 #[.string t] W fun e w' => Turned (fun _ => False) W w' ∧ e = .returned (.tuple #[.slice none 0 0, .int .i64 (k : Nat)])) := hP1
    have P2 : Hid (∀ W, Calls Try.prog 62 #[.string t] W fun e w' => Turned (fun _ => False) W w' ∧ e = .returned (.tuple #[.slice none 0 0, .int .i64 (k : Nat)])) := hP2
    have SM : Hid (∀ W, Calls Try.prog 19 #[.slice none 0 0, .slice none 0 0] W fun e w' => e = .returned (.bool true) ∧ Turned (fun _ => False) W w') := fun W => same_list none none 0 0 [] W ⟨Nat.le_refl _, by simp [maxLen], fun c hc => by simp at hc, fun h => by simp at h⟩ ⟨Nat.le_refl _, by simp [maxLen], fun c hc => by simp at hc, fun h => by simp at h⟩
    have h29 := P1.out w
    have m1 : Hid (0 + 1 ≤ maxLen ∧ (0 + 1) * 24 ≤ 140737488355328) := (by simp [maxLen] : 0 + 1 ≤ maxLen ∧ (0 + 1) * 24 ≤ 140737488355328)
    clear hP1 hP2 hs hsm hR
    go_enter Try.func30, Try.ntmps30
    go_wp2_with (first
      | (go_at_call 29; (with_reducible refine h29.mono ?_); rintro e w1 ⟨ht1, rfl⟩; have T1 : Hid (Turned (fun _ => False) w w1) := ht1; have h62 := P2.out w1; clear ht1 h29)
      | (go_at_call 62; (with_reducible refine h62.mono ?_); rintro e w2 ⟨ht2, rfl⟩; have T2 : Hid (Turned (fun _ => False) w w2) := T1.out.trans ht2 (fun _ _ q => q); have h19 := SM.out w2; clear ht2 h62)
      | (go_at_call 19; (with_reducible refine h19.mono ?_); rintro e w3 ⟨rfl, ht3⟩; have T3 : Hid (Turned (fun _ => False) w w3) := T2.out.trans ht3 (fun _ _ q => q); clear ht3 h19))
    go_loopg [31] 0 (fun g i wr => i = .int .i64 0 ∧ w3 = wr)
    case atStart => exact ⟨rfl, rfl⟩
    case round =>
      obtain ⟨rfl, rfl⟩ := hrel
      go_wp2_with (first
        | (at_builtin; refine wpList_append rfl _ _ 22 22 rfl (Sl.nil _ (fun _ => False) 31 2) Try.underlying22 info31 rfl (by decide) rfl (.slice (some ⟨w3.heap.size, 0, none⟩) 1 1) rfl (src_97 w3) m1.out.1 m1.out.2 ?_; intro x4 w4 q1 t1; have T4 : Hid (Turned (fun _ => False) w w4) := (T3.out.new _).trans t1 (fun _ _ q => q); have h29 := P1.out w4; clear q1 t1)
        | (go_at_call 29; (with_reducible refine h29.mono ?_); rintro e w5 ⟨ht5, rfl⟩; have T5 : Hid (Turned (fun _ => False) w w5) := T4.out.trans ht5 (fun _ _ q => q); have h19 := SM.out w5; clear ht5 h29)
        | (go_at_call 19; (with_reducible refine h19.mono ?_); rintro e w6 ⟨rfl, ht6⟩; have T6 : Hid (Turned (fun _ => False) w w6) := T5.out.trans ht6 (fun _ _ q => q); clear ht6 h19))
      go_ret
      exact ⟨rfl, T6.out⟩
  | ok l =>
    obtain ⟨hsl, hl16, -, -, -⟩ := hsm l hR
    rw [hR] at hP1 hP2
    have P1 : Hid (∀ W, Calls Try.prog 29 #[.string t] W fun e w' => Turned (fun _ => False) W w' ∧ ∃ v, e = .returned (.tuple #[v, .int .i64 0]) ∧ Sl w' (fun b => W.heap.size ≤ b) 31 2 v (ccells l) l.length) := hP1
    have P2 : Hid (∀ W, Calls Try.prog 62 #[.string t] W fun e w' => Turned (fun _ => False) W w' ∧ ∃ v, e = .returned (.tuple #[v, .int .i64 0]) ∧ Sl w' (fun b => W.heap.size ≤ b) 31 2 v (ccells l) l.length) := hP2
    have SM : Hid (∀ W S1 S2 (a b : Option Addr) (cap cap2 : Nat), Sl W S1 31 2 (.slice a l.length cap) (ccells l) l.length → Sl W S2 31 2 (.slice b l.length cap2) (ccells l) l.length →
        Calls Try.prog 19 #[.slice a l.length cap, .slice b l.length cap2] W fun e w' => e = .returned (.bool true) ∧ Turned (fun _ => False) W w') := fun W S1 S2 a b cap cap2 h1 h2 => by
      obtain ⟨a', cap', hv, hc1⟩ := sl_chIs h1 hsl
      obtain ⟨b', cap2', hv2, hc2⟩ := sl_chIs h2 hsl
      injection hv with e1 _ e3
      injection hv2 with e4 _ e6
      subst e1; subst e3; subst e4; subst e6
      exact same_list _ _ _ _ l W hc1 hc2
    obtain ⟨L, hL⟩ : ∃ L, L = l.length := ⟨_, rfl⟩
    rw [← hL] at P1 P2 SM hl16
    have H16 : Hid (L ≤ 16) := hl16
    have h29 := P1.out w
    have m1 : Hid (L + 1 ≤ maxLen ∧ (L + 1) * 24 ≤ 140737488355328) := (by simp only [maxLen]; omega : L + 1 ≤ maxLen ∧ (L + 1) * 24 ≤ 140737488355328)
    have HL : Hid (L = l.length) := hL
    clear hP1 hP2 hs hsm hR hsl hl16 hL
    go_enter Try.func30, Try.ntmps30
    go_wp2_with (first
      | (go_at_call 29; (with_reducible refine h29.mono ?_); rintro e w1 ⟨ht1, v1, rfl, hs1⟩; obtain ⟨a1, cap1, rfl, -, -⟩ := hs1.value; have T1 : Hid (Turned (fun _ => False) w w1 ∧ Sl w1 (fun b => w.heap.size ≤ b ∧ b < w1.heap.size) 31 2 (.slice a1 L cap1) (ccells l) L) := ⟨ht1, hs1.bound⟩; have h62 := P2.out w1; clear ht1 h29 hs1)
      | (go_at_call 62; (with_reducible refine h62.mono ?_); rintro e w2 ⟨ht2, v2, rfl, hs2⟩; obtain ⟨a2, cap2, rfl, -, -⟩ := hs2.value; have T2 : Hid (Turned (fun _ => False) w w2 ∧ Sl w2 (fun b => w.heap.size ≤ b ∧ b < w1.heap.size) 31 2 (.slice a1 L cap1) (ccells l) L ∧ Sl w2 (fun b => w1.heap.size ≤ b) 31 2 (.slice a2 L cap2) (ccells l) L) := ⟨T1.out.1.trans ht2 (fun _ _ q => q), T1.out.2.turned ht2 (fun _ _ q => q), hs2⟩; have h19 := SM.out w2 _ _ _ _ _ _ T2.out.2.1 T2.out.2.2; clear ht2 h62 hs2)
      | (go_at_call 19; (with_reducible refine h19.mono ?_); rintro e w3 ⟨rfl, ht3⟩; have T3 : Hid (Turned (fun _ => False) w w3 ∧ Sl w3 (fun b => w.heap.size ≤ b ∧ b < w1.heap.size) 31 2 (.slice a1 L cap1) (ccells l) L ∧ Sl w3 (fun b => w1.heap.size ≤ b) 31 2 (.slice a2 L cap2) (ccells l) L) := ⟨T2.out.1.trans ht3 (fun _ _ q => q), T2.out.2.1.turned ht3 (fun _ _ q => q), T2.out.2.2.turned ht3 (fun _ _ q => q)⟩; clear ht3 h19))
    have HS0 : Hid (SpRel w3 (fun b => w.heap.size ≤ b ∧ b < w1.heap.size) (.slice a1 L cap1) L L (.int .i64 0) w3) := ⟨0, _, by omega, rfl, T3.out.2.1, Turned.refl _ _⟩
    go_loopg [31] L (fun g i wr => SpRel w3 (fun b => w.heap.size ≤ b ∧ b < w1.heap.size) (.slice a1 L cap1) L g i wr)
    case atStart => exact HS0.out
    case round =>
      obtain ⟨k, xs, hkg, rfl, hsx, htx⟩ := hrel
      have G : Hid (k + gk = L) := hkg
      have SX : Hid (Sl wr (fun b => w.heap.size ≤ b ∧ b < w1.heap.size) 31 2 (.slice a1 L cap1) xs L) := hsx
      have TX : Hid (Turned (fun b => w.heap.size ≤ b ∧ b < w1.heap.size) w3 wr) := htx
      clear hkg hsx htx HS0
      by_cases hlt : k < L
      · obtain ⟨g, off, cp, hv, hS, -, -, hcl, hfr, hgl⟩ := SX.out.opens (by omega)
        injection hv with e1 e2 e3
        subst e1
        subst e3
        have hxl := SX.out.1
        have c0 := (hcl (k * 2) (by omega)).trans (List.getElem?_eq_getElem (by omega))
        have c1 := (hcl (k * 2 + 1) (by omega)).trans (List.getElem?_eq_getElem (by omega))
        have f0 := hfr (off + k * 2)
        have f1 := hfr (off + k * 2 + 1)
        rw [← Nat.add_assoc] at c1
        generalize xs[k * 2] = x0 at c0
        generalize xs[k * 2 + 1] = x1 at c1
        clear hcl hfr hxl e2
        go_wp2
        go_roundg (gk - 1)
        case measure => have := G.out; omega
        case rel =>
          have hgk := G.out
          obtain ⟨q1, q2, q3⟩ := SX.out.set (k * 2) (by omega) (.int .u32 98)
          obtain ⟨r1, r2, r3⟩ := q1.set (k * 2 + 1) (by omega) (.string ⟨#[]⟩)
          rw [← Nat.add_assoc] at r1 r2 r3
          exact ⟨k + 1, _, by omega, by have := H16.out; simp [wrap64]; omega, r1, (TX.out.trans q2 fun _ _ q => q).trans r2 fun _ _ q => q⟩
      · have hk : k = L := by have := G.out; omega
        subst hk
        have A1 : Hid (Sl (wr.alloc (.cells #[.int .u32 97, .string ⟨#[]⟩] 31)) (fun b => w.heap.size ≤ b ∧ b < w1.heap.size) 31 2 (.slice a1 k cap1) xs k) := SX.out.turned (Turned.alloc (fun _ => False) wr _) fun _ _ q => q
        have B3 : Hid (Sl wr (fun b => w1.heap.size ≤ b) 31 2 (.slice a2 k cap2) (ccells l) k) := T3.out.2.2.turned TX.out fun b q z => by omega
        clear hlt
        go_wp2_with (first
          | (at_builtin; refine wpList_append rfl _ _ 22 22 rfl A1.out Try.underlying22 info31 rfl (by decide) rfl (.slice (some ⟨wr.heap.size, 0, none⟩) 1 1) rfl (src_97 wr) m1.out.1 m1.out.2 ?_; intro x4 w4 q1 t1; have T4 : Hid (Turned (fun b => w.heap.size ≤ b ∧ b < w1.heap.size) wr w4) := (Turned.alloc (fun b => w.heap.size ≤ b ∧ b < w1.heap.size) wr _).trans t1 (fun _ _ q => q); have B4 : Hid (Sl w4 (fun b => w1.heap.size ≤ b) 31 2 (.slice a2 k cap2) (ccells l) k) := B3.out.turned T4.out (fun b q z => by omega); have h29 := P1.out w4; clear q1 t1)
          | (go_at_call 29; (with_reducible refine h29.mono ?_); rintro e w5 ⟨ht5, v5, rfl, hs5⟩; obtain ⟨a5, cap5, rfl, -, -⟩ := hs5.value; have T5 : Hid (Turned (fun _ => False) w4 w5) := ht5; have h19 := SM.out w5 _ _ _ _ _ _ hs5 (B4.out.turned T5.out fun _ _ q => q); clear ht5 h29 hs5)
          | (go_at_call 19; (with_reducible refine h19.mono ?_); rintro e w6 ⟨rfl, ht6⟩))
        go_ret
        have z1 := T1.out.1.size
        have k1 : Turned (fun _ => False) w w4 := (T3.out.1.comp TX.out (T := fun _ => False) fun i hi q => q.elim (fun q => q) fun q => by omega).comp T4.out fun i hi q => q.elim (fun q => q) fun q => by omega
        exact ⟨rfl, (k1.trans T5.out fun _ _ q => q).trans ht6 fun _ _ q => q⟩
end Go.Proofs.Ytfeljngmidhajaa
