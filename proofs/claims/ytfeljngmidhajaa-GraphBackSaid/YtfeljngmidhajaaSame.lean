/- Two lists that read alike are the same (the document's comparison). -/
import Derived.Test.YtfeljngmidhajaaBspec
namespace Go.Proofs.Ytfeljngmidhajaa
open Go.RowKit Go.Mine

def Small (l : List Ch) : Prop := ∀ c ∈ l, c.1 < 4294967296 ∧ c.2.size ≤ 140737488355328

theorem sl_chIs {w : World} {S : Nat → Prop} {v : Value} {l : List Ch} (h : Sl w S 31 2 v (ccells l) l.length) (hs : Small l) : ∃ a cap, v = .slice a l.length cap ∧ ChIs w a cap l := by
  obtain ⟨a, cap, hv, h1, h2⟩ := h.value
  refine ⟨a, cap, hv, h1, h2, hs, fun h0 => ?_⟩
  obtain ⟨g, off, cap2, hv2, -, -, -, hc, -, hlt⟩ := h.opens h0
  rw [hv] at hv2
  injection hv2 with e1 e2 e3
  subst e1
  refine ⟨g, off, rfl, hlt, fun i c hi => ?_⟩
  have hil := (List.getElem?_eq_some_iff.1 hi).1
  obtain ⟨g1, g2⟩ := ccells_get l i c hi
  exact ⟨(hc (i * 2) (by omega)).trans g1, by rw [Nat.add_assoc]; exact (hc (i * 2 + 1) (by omega)).trans g2⟩

def SameRel (w : World) (l : List Ch) (g : Nat) (i : Value) (wr : World) : Prop :=
  ∃ j : Nat, j + g = l.length ∧ i = .int .i64 j ∧ Turned (fun _ => False) w wr

theorem neq_chunk (c : Ch) (w : World) : (binOp .neq 31 (chv c) (chv c)).run Try.prog w = .ok (.bool false) w := by
  simp [go_sem, Try.underlying31, Try.underlying29, Try.underlying9]

set_option maxRecDepth 100000 in
set_option maxHeartbeats 1000000 in
theorem same_list (a b : Option Addr) (cap cap2 : Nat) (l : List Ch) (w : World) (ha : ChIs w a cap l) (hb : ChIs w b cap2 l) :
    Calls Try.prog 19 #[.slice a l.length cap, .slice b l.length cap2] w fun e w' => e = .returned (.bool true) ∧ Turned (fun _ => False) w w' := by
  have HA : Hid (ChIs w a cap l) := ha
  have HB : Hid (ChIs w b cap2 l) := hb
  obtain ⟨L, hL⟩ : ∃ L, L = l.length := ⟨_, rfl⟩
  have HL : Hid (L = l.length) := hL
  rw [← hL]
  have hcap : Hid (L ≤ 9223372036854775807) := (by rw [hL]; have := ha.1; have := ha.2.1; simp only [maxLen] at this; omega : L ≤ 9223372036854775807)
  clear ha hb hL
  go_enter Try.func19, Try.ntmps19
  go_wp2
  have HS : Hid (SameRel w l L (.int .i64 0) w) := ⟨0, by rw [HL.out, Nat.zero_add], rfl, Turned.refl _ _⟩
  go_loopg [5] L (fun g i wr => SameRel w l g i wr)
  case atStart => exact HS.out
  case round =>
    obtain ⟨j, hjg, rfl, ht⟩ := hrel
    have T : Hid (Turned (fun _ => False) w wr) := ht
    have G : Hid (j + gk = l.length) := hjg
    clear ht hjg HS
    by_cases hlt : j < L
    · obtain ⟨c, hc⟩ : ∃ c, l[j]? = some c := ⟨_, List.getElem?_eq_getElem (by rw [← HL.out]; exact hlt)⟩
      obtain ⟨b1, o1, rfl, hbw, c0, c1⟩ := chIs_any (HA.out.turned T.out) j c hc
      obtain ⟨b2, o2, rfl, hbw2, d0, d1⟩ := chIs_any (HB.out.turned T.out) j c hc
      have hw : wrap64 ((j : Int) + 1) = ((j + 1 : Nat) : Int) := by have := hcap.out; simp [wrap64]; omega
      have HW : Hid (wrap64 ((j : Int) + 1) = ((j + 1 : Nat) : Int)) := hw
      have hq := neq_chunk c
      clear hc hw
      go_wp2
      go_region
      all_goals go_wp2
      all_goals
        go_roundg (gk - 1)
        case measure => have := G.out; have := HL.out; omega
        case rel => exact ⟨j + 1, by have := G.out; have := HL.out; omega, by rw [HW.out], T.out.trans (Turned.drew _ _) fun _ _ q => q⟩
    · go_wp2
      go_ret
      exact ⟨rfl, T.out⟩
end Go.Proofs.Ytfeljngmidhajaa
