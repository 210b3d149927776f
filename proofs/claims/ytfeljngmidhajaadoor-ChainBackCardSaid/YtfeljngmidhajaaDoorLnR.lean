/- The document's Check of a chain: the walk. -/
import Derived.Test.YtfeljngmidhajaaDoorLnC
namespace Go.Proofs.YtfeljngmidhajaaDoor
open Go.RowKit Go.Mine

def RkRel (w : World) (l : List Ln) (g : Nat) (all i : Value) (wr : World) : Prop :=
  ∃ j : Nat, j + g = l.length ∧ i = .int .i64 j ∧ all = .int .i64 (totLn (l.take j)) ∧ chkLn [] l = chkLn (l.take j) (l.drop j) ∧ (∀ x ∈ l.take j, 1 ≤ x.2.1 ∧ x.2.1 ≤ 65536) ∧ Turned (fun _ => False) w wr
def RkIn (w : World) (l : List Ln) (j : Nat) (n : Int) (g : Nat) (k : Value) (wr : World) : Prop :=
  ∃ t : Nat, t + g = j ∧ k = .int .i64 t ∧ (∀ (q : Nat) (d : Ln), q < t → l[q]? = some d → d.1 ≠ n) ∧ Turned (fun _ => False) w wr

set_option maxRecDepth 100000 in
set_option maxHeartbeats 4000000 in
theorem rcheck_any (a : Option Addr) (cap : Nat) (l : List Ln) (w : World) (h : LnIs w a cap l) :
    Calls Tryd.prog 59 #[.slice a l.length cap] w fun e w' => e = .returned (.int .i64 (lnErr l : Nat)) ∧ Turned (fun _ => False) w w' := by
  have H : Hid (LnIs w a cap l) := h
  obtain ⟨L, hL⟩ : ∃ L, L = l.length := ⟨_, rfl⟩
  have HL : Hid (L = l.length) := hL
  by_cases h8 : 8 < L
  · have HE : Hid (lnErr l = 5) := by
      have : lnErr l = 5 := by unfold lnErr; rw [if_pos (by omega)]
      exact this
    rw [← hL, HE.out]
    clear h hL
    go_enter Tryd.func59, Tryd.ntmps59
    go_wp2
    go_ret
    exact ⟨rfl, Turned.refl _ _⟩
  · have HE : Hid (lnErr l = chkLn [] l) := by
      have : lnErr l = chkLn [] l := by unfold lnErr; rw [if_neg (by omega)]
      exact this
    have H8 : Hid (L ≤ 8) := (by omega : L ≤ 8)
    rw [← hL, HE.out]
    have HS : Hid (RkRel w l L (.int .i64 0) (.int .i64 0) w) := ⟨0, by omega, rfl, rfl, rfl, fun x hx => by simp at hx, Turned.refl _ _⟩
    clear h hL
    go_enter Tryd.func59, Tryd.ntmps59
    go_wp2
    go_loopg [3, 4] L (fun g all i wr => RkRel w l g all i wr)
    case atStart => exact HS.out
    case round =>
      obtain ⟨j, hjg, rfl, rfl, hck, hcn, ht⟩ := hrel
      have T : Hid (Turned (fun _ => False) w wr) := ht
      have G : Hid (j + gk = l.length) := hjg
      have CK : Hid (chkLn [] l = chkLn (l.take j) (l.drop j)) := hck
      have CN : Hid (∀ x ∈ l.take j, 1 ≤ x.2.1 ∧ x.2.1 ≤ 65536) := hcn
      clear hjg hck hcn ht HS
      by_cases hlt : j < L
      · obtain ⟨c, hc⟩ : ∃ c, l[j]? = some c := ⟨_, List.getElem?_eq_getElem (by rw [← HL.out]; exact hlt)⟩
        obtain ⟨b, off, rfl, hbw, c0, c1, c2⟩ := lnIs_any (H.out.turned T.out) j c hc
        have hj2 := (List.getElem?_eq_some_iff.1 hc).1
        have hcj : c = l[j] := (List.getElem?_eq_some_iff.1 hc).2.symm
        have hdr : l.drop j = c :: l.drop (j + 1) := by rw [List.drop_eq_getElem_cons hj2, hcj]
        have hckk := CK.out
        rw [hdr, chkLn] at hckk
        have DR : Hid (l[j]? = some c ∧ c ∈ l) := ⟨hc, List.mem_of_getElem? hc⟩
        clear hc hj2 hcj hdr
        have hcase : (badLn c = true ∧ ((decide (c.1 < 0) = true) ∨ (decide (c.1 < 0) = false ∧ decide (1073741824 < c.1) = true) ∨ (decide (c.1 < 0) = false ∧ decide (1073741824 < c.1) = false ∧ decide (c.2.1 < 1) = true) ∨ (decide (c.1 < 0) = false ∧ decide (1073741824 < c.1) = false ∧ decide (c.2.1 < 1) = false ∧ decide (65536 < c.2.1) = true))) ∨
            (badLn c = false ∧ decide (c.1 < 0) = false ∧ decide (1073741824 < c.1) = false ∧ decide (c.2.1 < 1) = false ∧ decide (65536 < c.2.1) = false) := by
          unfold badLn numb
          by_cases q1 : c.1 < 0
          · exact .inl ⟨by simp; omega, .inl (by simpa using q1)⟩
          · by_cases q2 : 1073741824 < c.1
            · exact .inl ⟨by simp; omega, .inr (.inl ⟨by simpa using q1, by simpa using q2⟩)⟩
            · by_cases q3 : c.2.1 < 1
              · exact .inl ⟨by simp; omega, .inr (.inr (.inl ⟨by simpa using q1, by simpa using q2, by simpa using q3⟩))⟩
              · by_cases q4 : 65536 < c.2.1
                · exact .inl ⟨by simp; omega, .inr (.inr (.inr ⟨by simpa using q1, by simpa using q2, by simpa using q3, by simpa using q4⟩))⟩
                · exact .inr ⟨by simp; omega, by simpa using q1, by simpa using q2, by simpa using q3, by simpa using q4⟩
        rcases hcase with ⟨hb, hcs⟩ | ⟨hb, hd1, hd2, hd3, hd4⟩
        · rw [if_pos hb] at hckk
          have HR : Hid (chkLn [] l = 1) := hckk
          clear hckk hb
          rcases hcs with hd1 | ⟨hd1, hd2⟩ | ⟨hd1, hd2, hd3⟩ | ⟨hd1, hd2, hd3, hd4⟩
          all_goals go_wp2
          all_goals go_ret
          all_goals exact ⟨by rw [HR.out]; rfl, T.out⟩
        · rw [if_neg (by rw [hb]; simp)] at hckk
          have hcb : 1 ≤ c.2.1 ∧ c.2.1 ≤ 65536 := by
            have h1 : ¬ c.2.1 < 1 := by simpa using hd3
            have h2 : ¬ 65536 < c.2.1 := by simpa using hd4
            omega
          have htk : l.take (j + 1) = l.take j ++ [c] := by rw [List.take_add_one, DR.out.1]; rfl
          have hcn2 : ∀ x ∈ l.take (j + 1), 1 ≤ x.2.1 ∧ x.2.1 ≤ 65536 := by
            intro x hx
            rw [htk] at hx
            rcases List.mem_append.1 hx with q | q
            · exact CN.out x q
            · rw [List.mem_singleton] at q; subst q; exact hcb
          have ht1 : totLn (l.take (j + 1)) = totLn (l.take j) + c.2.1 := by rw [htk, totLn_append]; simp [totLn]
          have hwt : wrap64 (totLn (l.take j) + c.2.1) = totLn (l.take (j + 1)) := by
            have h1 := tot_bound (l.take (j + 1)) hcn2
            have h2 : (l.take (j + 1)).length ≤ 9 := by rw [List.length_take]; have := H8.out; omega
            rw [ht1] at h1 ⊢
            simp only [wrap64]; omega
          rw [← htk] at hckk
          have HCK : Hid (chkLn [] l = if hasLn (l.take j) c.1 = true then 11 else if 65536 < totLn (l.take (j + 1)) then 1 else chkLn (l.take (j + 1)) (l.drop (j + 1))) := hckk
          have CN2 : Hid (∀ x ∈ l.take (j + 1), 1 ≤ x.2.1 ∧ x.2.1 ≤ 65536) := hcn2
          have HWT : Hid (wrap64 (totLn (l.take j) + c.2.1) = totLn (l.take (j + 1))) := hwt
          have C0 : Hid (wr.cell? ⟨b, off + j * 3, none⟩ = some (.int .i64 c.1) ∧ wr.cell? ⟨b, off + j * 3 + 1, none⟩ = some (.int .i64 c.2.1)) := ⟨c0, c1⟩
          clear hckk hwt hcn2 ht1 htk hb hcb
          generalize totLn (l.take j) = t0 at *
          go_wp2
          obtain ⟨wo, rfl⟩ : ∃ x : World, x = wr := ⟨wr, rfl⟩
          clear c0 c1 c2 hd1 hd2 hd3 hd4
          go_loopg [5] j (fun g k wr => RkIn wo l j c.1 g k wr)
          case atStart => exact ⟨0, Nat.zero_add _, rfl, fun q d hq => by omega, Turned.refl _ _⟩
          case round =>
            obtain ⟨t, htg, rfl, hno, htq⟩ := hrel
            have TQ : Hid (Turned (fun _ => False) wo wr) := htq
            have GT : Hid (t + gk = j) := htg
            have NO : Hid (∀ (q : Nat) (d : Ln), q < t → l[q]? = some d → d.1 ≠ c.1) := hno
            have c0' : wr.cell? ⟨b, off + j * 3, none⟩ = some (.int .i64 c.1) := by rw [World.cell?_of_block (w' := wr) (TQ.out.block b hbw fun q => q)]; exact C0.out.1
            have c1' : wr.cell? ⟨b, off + j * 3 + 1, none⟩ = some (.int .i64 c.2.1) := by rw [World.cell?_of_block (w' := wr) (TQ.out.block b hbw fun q => q)]; exact C0.out.2
            have hbr : b < wr.heap.size := Nat.lt_of_lt_of_le hbw TQ.out.size
            clear htq htg hno
            by_cases htj : t < j
            · obtain ⟨d, hd2⟩ : ∃ d, l[t]? = some d := ⟨_, List.getElem?_eq_getElem (by rw [← HL.out]; omega)⟩
              obtain ⟨b2, off2, hbb, -, d0, -, -⟩ := lnIs_any ((H.out.turned T.out).turned TQ.out) t d hd2
              injection hbb with hbb
              injection hbb with e1 e2
              subst e1
              subst e2
              have D : Hid (l[t]? = some d) := hd2
              clear hd2
              by_cases hdd : d.1 = c.1
              · have hq : (d.1 == c.1) = true := by simp [hdd]
                have hh : hasLn (l.take j) c.1 = true := by
                  unfold hasLn
                  rw [List.any_eq_true]
                  refine ⟨d, ?_, by simpa using hdd⟩
                  refine List.mem_of_getElem? (i := t) ?_
                  rw [List.getElem?_take, if_pos htj, D.out]
                have HR : Hid (chkLn [] l = 11) := by have := HCK.out; rw [if_pos hh] at this; exact this
                clear hh hdd
                go_wp2
                go_region
                all_goals go_wp2
                all_goals go_ret
                all_goals exact ⟨by rw [HR.out]; rfl, (T.out.trans TQ.out fun _ _ q => q).draw⟩
              · have hq : (d.1 == c.1) = false := by simp [hdd]
                have HDD : Hid (d.1 ≠ c.1) := hdd
                clear hdd
                go_wp2
                go_region
                all_goals go_wp2
                all_goals
                  go_roundg (gk - 1)
                  case measure => have := GT.out; omega
                  case rel =>
                    refine ⟨t + 1, by have := GT.out; omega, by simp, fun q e hq he => ?_, TQ.out.draw⟩
                    rcases Nat.lt_or_eq_of_le (Nat.le_of_lt_succ hq) with z | z
                    · exact NO.out q e z he
                    · rw [z, D.out] at he; obtain rfl := Option.some.inj he; exact HDD.out
            · have ht : t = j := by have := GT.out; omega
              have hh : ¬ hasLn (l.take j) c.1 = true := by
                intro q
                unfold hasLn at q
                rw [List.any_eq_true] at q
                obtain ⟨d, hd1, hd2⟩ := q
                obtain ⟨i, hi⟩ := List.getElem?_of_mem hd1
                rw [List.getElem?_take] at hi
                split at hi
                · exact NO.out i d (by omega) hi (by simpa using hd2)
                · simp at hi
              have HCK2 : Hid (chkLn [] l = if 65536 < totLn (l.take (j + 1)) then 1 else chkLn (l.take (j + 1)) (l.drop (j + 1))) := by
                have := HCK.out; rw [if_neg hh] at this; exact this
              subst ht
              have hwt := HWT.out
              clear hh
              by_cases hbig : 65536 < totLn (l.take (t + 1))
              · have hd5 : decide (65536 < totLn (l.take (t + 1))) = true := by simp; omega
                have HR : Hid (chkLn [] l = 1) := by have := HCK2.out; rw [if_pos hbig] at this; exact this
                clear hbig
                generalize totLn (l.take (t + 1)) = tt at *
                go_wp2
                go_ret
                exact ⟨by rw [HR.out]; rfl, T.out.trans TQ.out fun _ _ q => q⟩
              · have hd5 : decide (65536 < totLn (l.take (t + 1))) = false := by simp; omega
                have HR : Hid (chkLn [] l = chkLn (l.take (t + 1)) (l.drop (t + 1))) := by have := HCK2.out; rw [if_neg hbig] at this; exact this
                clear hbig
                go_wp2
                go_roundg (l.length - t - 1)
                case measure => have := G.out; have := HL.out; omega
                case rel => exact ⟨t + 1, by have := G.out; have := HL.out; omega, by simp, by rw [HWT.out], HR.out, CN2.out, T.out.trans TQ.out fun _ _ q => q⟩
      · have hj : j = L := by have := G.out; have := HL.out; omega
        subst hj
        have HR : Hid (chkLn [] l = 0) := by
          have := CK.out
          rw [List.drop_of_length_le (by have := HL.out; omega)] at this
          exact this
        go_wp2
        go_ret
        exact ⟨by rw [HR.out]; rfl, T.out⟩
end Go.Proofs.YtfeljngmidhajaaDoor
