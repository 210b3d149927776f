/- Two lists of links that read alike are the same (the document's comparison). -/
import Derived.Test.YtfeljngmidhajaaDoorLnC
namespace Go.Proofs.YtfeljngmidhajaaDoor
open Go.RowKit Go.Mine

def SameRel (w : World) (l : List Ln) (g : Nat) (i : Value) (wr : World) : Prop :=
  ∃ j : Nat, j + g = l.length ∧ i = .int .i64 j ∧ Turned (fun _ => False) w wr

theorem neq_link (c : Ln) (w : World) : (binOp .neq 43 (lnv c) (lnv c)).run Tryd.prog w = .ok (.bool false) w := by
  simp [go_sem, Tryd.underlying43, Tryd.underlying3, Tryd.underlying32]

set_option maxRecDepth 100000 in
set_option maxHeartbeats 1000000 in
theorem same_list (a b : Option Addr) (cap cap2 : Nat) (l : List Ln) (w : World) (ha : LnIs w a cap l) (hb : LnIs w b cap2 l) :
    Calls Tryd.prog 11 #[.slice a l.length cap, .slice b l.length cap2] w fun e w' => e = .returned (.bool true) ∧ Turned (fun _ => False) w w' := by
  have HA : Hid (LnIs w a cap l) := ha
  have HB : Hid (LnIs w b cap2 l) := hb
  obtain ⟨L, hL⟩ : ∃ L, L = l.length := ⟨_, rfl⟩
  have HL : Hid (L = l.length) := hL
  rw [← hL]
  have hcap : Hid (L ≤ 9223372036854775807) := (by rw [hL]; have := ha.1; have := ha.2.1; simp only [maxLen] at this; omega : L ≤ 9223372036854775807)
  clear ha hb hL
  go_enter Tryd.func11, Tryd.ntmps11
  go_wp2
  have HS : Hid (SameRel w l L (.int .i64 0) w) := ⟨0, by rw [HL.out, Nat.zero_add], rfl, Turned.refl _ _⟩
  go_loopg [5] L (fun g i wr => SameRel w l g i wr)
  case atStart => exact HS.out
  case round =>
    obtain ⟨j, hjg, rfl, ht⟩ := hrel
    have T : Hid (Turned (fun _ => False) w wr) := ht
    have G : Hid (j + gk = l.length) := hjg
    clear ht hjg HS
    by_cases hlt : j < L
    · obtain ⟨c, hc⟩ : ∃ c, l[j]? = some c := ⟨_, List.getElem?_eq_getElem (by rw [← HL.out]; exact hlt)⟩
      obtain ⟨b1, o1, rfl, hbw, c0, c1, c2⟩ := lnIs_any (HA.out.turned T.out) j c hc
      obtain ⟨b2, o2, rfl, hbw2, d0, d1, d2⟩ := lnIs_any (HB.out.turned T.out) j c hc
      have hw : wrap64 ((j : Int) + 1) = ((j + 1 : Nat) : Int) := by have := hcap.out; simp [wrap64]; omega
      have HW : Hid (wrap64 ((j : Int) + 1) = ((j + 1 : Nat) : Int)) := hw
      have hq := neq_link c
      clear hc hw
      go_wp2
      go_region
      all_goals go_wp2
      all_goals
        go_roundg (gk - 1)
        case measure => have := G.out; have := HL.out; omega
        case rel => exact ⟨j + 1, by have := G.out; have := HL.out; omega, by rw [HW.out], T.out.trans (Turned.drew _ _) fun _ _ q => q⟩
    · go_wp2
      go_ret
      exact ⟨rfl, T.out⟩
end Go.Proofs.YtfeljngmidhajaaDoor
