/- The document's Encode of a chain: the walk. -/
import Derived.Test.YtfeljngmidhajaaDoorLnE
import Derived.Test.YtfeljngmidhajaaDoorLnR
import Derived.Deep.RegionWith
namespace Go.Proofs.YtfeljngmidhajaaDoor
open Go.RowKit Go.Mine

def F3 (w : World) (l : List Ln) (p0 : List UInt8) (g : Nat) (s i : Value) (wr : World) : Prop :=
  ∃ j : Nat, j + g = l.length ∧ i = .int .i64 j ∧ s = .string ⟨(p0 ++ rowsLn (l.take j)).toArray⟩ ∧ Turned (fun _ => False) w wr

set_option maxRecDepth 100000 in
set_option maxHeartbeats 4000000 in
theorem rencode_any (a : Option Addr) (cap : Nat) (l : List Ln) (w : World) (h : LnIs w a cap l) :
    Calls Tryd.prog 42 #[.slice a l.length cap] w fun e w' => e = .returned (encV l) ∧ Turned (fun _ => False) w w' := by
  have H : Hid (LnIs w a cap l) := h
  have hck := rcheck_any a cap l w h
  by_cases he : lnErr l = 0
  · have HV : Hid (encV l = .tuple #[.string (toldLn l), .int .i64 0]) := by
      have : encV l = .tuple #[.string (toldLn l), .int .i64 0] := by unfold encV; rw [if_pos he]
      exact this
    obtain ⟨h8, -, hgood⟩ := lnErr_ok l he
    rw [he] at hck
    rw [HV.out]
    obtain ⟨L, hL⟩ : ∃ L, L = l.length := ⟨_, rfl⟩
    rw [← hL] at hck h8 ⊢
    have HL : Hid (L = l.length) := hL
    have H8 : Hid (L ≤ 8) := h8
    have HG : Hid (∀ x ∈ l, 0 ≤ x.1 ∧ x.1 ≤ 1073741824 ∧ 1 ≤ x.2.1 ∧ x.2.1 ≤ 65536) := hgood
    have hm5 : ((L : Nat) : Int) % 18446744073709551616 = (L : Int) := by omega
    have hn0 : ∀ W, Calls Tryd.prog 19 #[.int .u64 (L : Nat), .int .i64 1] W fun e w' => e = .returned (.string ⟨(num L 1).toArray⟩) ∧ Turned (fun _ => False) W w' := fun W => number_any L 1 W (by omega) (by omega)
    have hadd0 : ∀ W, (Op.stringOp .add ⟨#[80, 68, 71, 77, 1]⟩ ⟨(num L 1).toArray⟩).run Tryd.prog W = .ok (.string ⟨(magicM ++ num L 1).toArray⟩) W := fun W => add_ba magicM (num L 1) (by simp [magicM, num_length]) W
    generalize hp0 : magicM ++ num L 1 = p0 at *
    have P0 : Hid (magicM ++ num L 1 = p0) := hp0
    have PL : Hid (p0.length = 6) := by
      have : p0.length = 6 := by rw [← hp0]; simp [magicM, num_length]
      exact this
    clear hp0 h hL h8 hgood he
    go_enter Tryd.func42, Tryd.ntmps42
    go_wp2_with (first
      | (go_at_call 59; (with_reducible refine hck.mono ?_); rintro e w2 ⟨rfl, ht2⟩; have T2 : Hid (Turned (fun _ => False) w w2) := ht2; clear hck ht2)
      | (go_at_call 19; (with_reducible refine (hn0 _).mono ?_); rintro e w3 ⟨rfl, ht3⟩; have T3 : Hid (Turned (fun _ => False) w w3) := T2.out.trans ht3 (fun _ _ q => q); clear ht3))
    have HS2 : Hid (F3 w3 l p0 L (.string ⟨p0.toArray⟩) (.int .i64 0) w3) := ⟨0, by have := HL.out; omega, rfl, by simp [rowsLn], Turned.refl _ _⟩
    clear hm5 hn0 hadd0
    go_loopg [5, 6] L (fun g s i wr => F3 w3 l p0 g s i wr)
    case atStart => exact HS2.out
    case round =>
      obtain ⟨i, hig, rfl, rfl, htq⟩ := hrel
      rw [← HL.out] at hig
      have TQ : Hid (Turned (fun _ => False) w3 wr) := htq
      have GI : Hid (i + gk = L) := hig
      clear htq hig HS2
      by_cases hlt : i < L
      · obtain ⟨c, hc⟩ : ∃ c, l[i]? = some c := ⟨_, List.getElem?_eq_getElem (by rw [← HL.out]; exact hlt)⟩
        obtain ⟨b, off, rfl, hgl, c0, c1, c2⟩ := lnIs_any (H.out.turned (T3.out.trans TQ.out fun _ _ q => q)) i c hc
        have hg := HG.out c (List.mem_of_getElem? hc)
        have hu := (H.out.2.2.1 c (List.mem_of_getElem? hc)).2.2
        have HC0 : Hid (l[i]? = some c) := hc
        obtain ⟨cn, cc, cs⟩ := c
        simp only at hg hu c0 c1 c2
        obtain ⟨n, rfl⟩ : ∃ n : Nat, cn = (n : Int) := ⟨cn.toNat, by omega⟩
        obtain ⟨m, rfl⟩ : ∃ m : Nat, cc = (m : Int) := ⟨cc.toNat, by omega⟩
        have hlen : (p0 ++ rowsLn (l.take i)).length ≤ 1000 := by
          rw [List.length_append, PL.out, rowsLn_length, List.length_take]
          have := H8.out; omega
        have hm1 : IntKind.u64.wrap ((n : Nat) : Int) = (n : Int) := by simp [IntKind.wrap, IntKind.bits, IntKind.signed]; omega
        have hm2 : IntKind.u64.wrap ((m : Nat) : Int) = (m : Int) := by simp [IntKind.wrap, IntKind.bits, IntKind.signed]; omega
        have hm3 : IntKind.u64.wrap ((cs : Nat) : Int) = (cs : Int) := by simp [IntKind.wrap, IntKind.bits, IntKind.signed]; omega
        have hn1 : ∀ W, Calls Tryd.prog 19 #[.int .u64 (IntKind.u64.wrap (n : Nat)), .int .i64 4] W fun e w' => e = .returned (.string ⟨(num n 4).toArray⟩) ∧ Turned (fun _ => False) W w' := fun W => by rw [hm1]; exact number_any n 4 W (by omega) (by omega)
        have hn2 : ∀ W, Calls Tryd.prog 19 #[.int .u64 (IntKind.u64.wrap (m : Nat)), .int .i64 4] W fun e w' => e = .returned (.string ⟨(num m 4).toArray⟩) ∧ Turned (fun _ => False) W w' := fun W => by rw [hm2]; exact number_any m 4 W (by omega) (by omega)
        have hn3 : ∀ W, Calls Tryd.prog 19 #[.int .u64 (IntKind.u64.wrap (cs : Nat)), .int .i64 4] W fun e w' => e = .returned (.string ⟨(num cs 4).toArray⟩) ∧ Turned (fun _ => False) W w' := fun W => by rw [hm3]; exact number_any cs 4 W (by omega) (by omega)
        have hadd1 := add_ba (p0 ++ rowsLn (l.take i)) (num n 4) (by rw [num_length]; omega)
        have hadd2 := add_ba (p0 ++ rowsLn (l.take i) ++ num n 4) (num m 4) (by rw [List.length_append, num_length, num_length]; omega)
        have hadd3 := add_ba (p0 ++ rowsLn (l.take i) ++ num n 4 ++ num m 4) (num cs 4) (by rw [List.length_append, List.length_append, num_length, num_length, num_length]; omega)
        have e1 : p0 ++ rowsLn (l.take i) ++ num n 4 ++ num m 4 ++ num cs 4 = p0 ++ rowsLn (l.take (i + 1)) := by
          rw [List.take_add_one, hc, rowsLn_append]
          simp [rowsLn, rowLn]
        have E1 : Hid (p0 ++ rowsLn (l.take i) ++ num n 4 ++ num m 4 ++ num cs 4 = p0 ++ rowsLn (l.take (i + 1))) := e1
        have CT : Hid (∀ w3, Turned (fun _ => False) wr.drew w3 → w3.cell? ⟨b, off + i * 3, none⟩ = some (.int .i64 (n : Int)) ∧ w3.cell? ⟨b, off + i * 3 + 1, none⟩ = some (.int .i64 (m : Int)) ∧ w3.cell? ⟨b, off + i * 3 + 2, none⟩ = some (.int .u32 (cs : Nat)) ∧ b < w3.heap.size) := fun w3 t3 => by
          have hb : wr.heap.size ≤ w3.heap.size := t3.size
          have hbk := fun o => World.cell?_of_block (w := wr.drew) (w' := w3) (a := ⟨b, o, none⟩) (t3.block b hgl fun q => q)
          exact ⟨(hbk _).trans c0, (hbk _).trans c1, (hbk _).trans c2, by omega⟩
        clear hc hlen hg hu e1 hm1 hm2 hm3
        generalize (⟨(p0 ++ rowsLn (l.take i)).toArray⟩ : ByteArray) = q0 at *
        generalize (⟨(p0 ++ rowsLn (l.take i) ++ num n 4).toArray⟩ : ByteArray) = q1 at *
        generalize (⟨(p0 ++ rowsLn (l.take i) ++ num n 4 ++ num m 4).toArray⟩ : ByteArray) = q2 at *
        generalize hq3 : (⟨(p0 ++ rowsLn (l.take i) ++ num n 4 ++ num m 4 ++ num cs 4).toArray⟩ : ByteArray) = q3 at *
        have HQ3 : Hid ((⟨(p0 ++ rowsLn (l.take i) ++ num n 4 ++ num m 4 ++ num cs 4).toArray⟩ : ByteArray) = q3) := hq3
        clear hq3
        generalize (⟨(num n 4).toArray⟩ : ByteArray) = n1 at *
        generalize (⟨(num m 4).toArray⟩ : ByteArray) = n2 at *
        generalize (⟨(num cs 4).toArray⟩ : ByteArray) = n3 at *
        go_wp2
        go_region_with (first
          | (go_at_call 19; (with_reducible refine (hn1 _).mono ?_); rintro e wA ⟨rfl, htA⟩; obtain ⟨f0, f1, f2, f3⟩ := CT.out wA htA)
          | (go_at_call 19; (with_reducible refine (hn2 _).mono ?_); rintro e wB ⟨rfl, htB⟩; obtain ⟨g0, g1, g2, g3⟩ := CT.out wB (htA.trans htB fun _ _ q => q))
          | (go_at_call 19; (with_reducible refine (hn3 _).mono ?_); rintro e wC ⟨rfl, htC⟩))
        all_goals go_wp2
        all_goals
          go_roundg (gk - 1)
          case measure => have := GI.out; omega
          case rel => exact ⟨i + 1, by have := GI.out; have := HL.out; omega, by have := H8.out; first | (simp; done) | (simp [wrap64]; omega), by rw [← HQ3.out, E1.out], ((TQ.out.draw.trans htA fun _ _ q => q).trans htB fun _ _ q => q).trans htC fun _ _ q => q⟩
      · have hi : i = L := by have := GI.out; omega
        subst hi
        have htk : l.take i = l := List.take_of_length_le (by have := HL.out; omega)
        generalize hq0 : (⟨(p0 ++ rowsLn (l.take i)).toArray⟩ : ByteArray) = q0
        rw [htk] at hq0
        have hse := sealed_any q0 wr (by rw [← hq0, ba_size, List.length_append, PL.out, rowsLn_length]; have := H8.out; have := HL.out; omega)
        have HBS : Hid (toldLn l = sealed q0) := by
          show toldLn l = _
          unfold toldLn bodyLn
          rw [← hq0, ← P0.out, HL.out]
        clear htk hlt hq0
        go_wp2_with (go_at_call 8; (with_reducible refine hse.mono ?_); rintro e w4 ⟨rfl, ht4⟩)
        go_ret2
        exact ⟨by rw [HBS.out]; rfl, (T3.out.trans TQ.out fun _ _ q => q).trans ht4 fun _ _ q => q⟩
  · have HV : Hid (encV l = .tuple #[.string ⟨#[]⟩, .int .i64 (lnErr l : Nat)]) := by
      have : encV l = .tuple #[.string ⟨#[]⟩, .int .i64 (lnErr l : Nat)] := by unfold encV; rw [if_neg he]
      exact this
    rw [HV.out]
    have hd5 : ((lnErr l : Int) == 0) = false := by simp; omega
    generalize lnErr l = k at *
    generalize l.length = L at *
    clear h he
    go_enter Tryd.func42, Tryd.ntmps42
    go_wp2_with (go_at_call 59; (with_reducible refine hck.mono ?_); rintro e w2 ⟨rfl, ht2⟩)
    go_ret2
    exact ⟨rfl, ht2⟩
end Go.Proofs.YtfeljngmidhajaaDoor
