/- Commands written over: the contract of spoilt. -/
import Derived.Test.YteblabpplaaddaaGreatDoorSq
import Derived.Test.YteblabpplaaddaaGreatDoorDn
import Derived.Test.YteblabpplaaddaaGreatDoorCo
set_option linter.unusedVariables false
set_option linter.unusedSimpArgs false
namespace Go.Proofs.YteblabpplaaddaaGreatDoor
open Go.RowKit Go.Mine Go.Mine.Sc

/-- one command as it lies in its row -/
def FAt (W : World) (T : Nat → Prop) (cur : Array Value) (o : Nat) : Prop :=
  ∃ (k : Int) (a1 : Option Addr) (n1 c1 : Nat) (a4 : Option Addr) (n4 c4 : Nat) (a9 : Option Addr) (n9 c9 : Nat), cur[o]? = some (.int .i64 k) ∧ cur[o + 1]? = some (.slice a1 n1 c1) ∧ cur[o + 4]? = some (.slice a4 n4 c4) ∧ cur[o + 9]? = some (.slice a9 n9 c9) ∧ (n1 ≤ 1000000 ∧ n4 ≤ 1000000 ∧ n9 ≤ 1000000) ∧
    Fit W T 3 1 (.slice a1 n1 c1) n1 ∧ Fit W T 54 2 (.slice a4 n4 c4) n4 ∧ Fit W T 3 1 (.slice a9 n9 c9) n9
theorem FAt.like {W W' : World} {S T : Nat → Prop} {cur : Array Value} {o : Nat} (h : FAt W T cur o) (k : Like S W W') : FAt W' T cur o := by
  obtain ⟨k0, a1, n1, c1, a4, n4, c4, a9, n9, c9, e0, e1, e4, e9, hb, f1, f4, f9⟩ := h
  exact ⟨k0, a1, n1, c1, a4, n4, c4, a9, n9, c9, e0, e1, e4, e9, hb, f1.like k, f4.like k, f9.like k⟩
theorem FAt.put {W : World} {T : Nat → Prop} {cur : Array Value} {off j k : Nat} (h : FAt W T cur (off + j * 11)) : FAt W T (cur.setIfInBounds (off + k * 11) (.int .i64 0)) (off + j * 11) := by
  obtain ⟨k0, a1, n1, c1, a4, n4, c4, a9, n9, c9, e0, e1, e4, e9, hb, f1, f4, f9⟩ := h
  have hlt : off + j * 11 < cur.size := (Array.getElem?_eq_some_iff.1 e0).1
  by_cases hjk : j = k
  · subst hjk
    exact ⟨0, a1, n1, c1, a4, n4, c4, a9, n9, c9, by rw [Array.getElem?_setIfInBounds_self_of_lt hlt], by rw [Array.getElem?_setIfInBounds_ne (by omega)]; exact e1, by rw [Array.getElem?_setIfInBounds_ne (by omega)]; exact e4, by rw [Array.getElem?_setIfInBounds_ne (by omega)]; exact e9, hb, f1, f4, f9⟩
  · exact ⟨k0, a1, n1, c1, a4, n4, c4, a9, n9, c9, by rw [Array.getElem?_setIfInBounds_ne (by omega)]; exact e0, by rw [Array.getElem?_setIfInBounds_ne (by omega)]; exact e1, by rw [Array.getElem?_setIfInBounds_ne (by omega)]; exact e4, by rw [Array.getElem?_setIfInBounds_ne (by omega)]; exact e9, hb, f1, f4, f9⟩

/-- a fitting slice's cell -/
theorem fit_cell {W : World} {T : Nat → Prop} {e : TypeId} {size : Nat} {a : Option Addr} {n c : Nat} (h : Fit W T e size (.slice a n c) n) {i : Nat} (hi : i < n) (hs : 0 < size) :
    ∃ g off, a = some ⟨g, off, none⟩ ∧ T g ∧ g < W.heap.size ∧ (∀ o, W.frozen? ⟨g, o, none⟩ = false) ∧ ∀ d, d < size → ∃ v, W.cell? ⟨g, off + i * size + d, none⟩ = some v := by
  obtain ⟨xs, hx, h⟩ := h
  rcases h with ⟨hv, h0⟩ | ⟨g, off, cap, cur, hv, hS, hg, hnc, hcm, hcs, htake⟩
  · omega
  · injection hv with e1 e2 e3
    subst e1
    refine ⟨g, off, rfl, hS, lt_of_block hg, fun o => free_of hg o, fun d hd => ?_⟩
    have h1 : (i + 1) * size ≤ n * size := Nat.mul_le_mul_right _ hi
    have h2 : n * size ≤ cap * size := Nat.mul_le_mul_right _ hnc
    rw [Nat.add_mul, Nat.one_mul] at h1
    have h3 : off + i * size + d < cur.size := by omega
    exact ⟨_, cell_of hg _ _ (Array.getElem?_eq_getElem h3)⟩

def SpR (w : World) (S T : Nat → Prop) (gb off n g : Nat) (v8 : Value) (wr : World) : Prop :=
  ∃ (k : Nat) (cur : Array Value), v8 = .int .i64 (k : Nat) ∧ k + g = n ∧ wr.heap[gb]? = some (.cells cur 39 (0, 0)) ∧ (∀ j, j < n → FAt wr T cur (off + j * 11)) ∧ Like S w wr
def InR (W : World) (T : Nat → Prop) (n g : Nat) (v : Value) (wr : World) : Prop := ∃ i : Nat, v = .int .i64 (i : Nat) ∧ i + g = n ∧ Like T W wr

set_option maxRecDepth 100000 in
set_option maxHeartbeats 8000000 in
theorem spoilt_cons (w : World) (S T : Nat → Prop) (gb off n cap : Nat) (cur : Array Value) (hn : n ≤ 1024) (hg : w.heap[gb]? = some (.cells cur 39 (0, 0))) (hS : S gb) (hT : ∀ b, T b → S b ∧ b ≠ gb) (hf : ∀ j, j < n → FAt w T cur (off + j * 11)) :
    Calls Tryz.prog 23 #[.slice (some ⟨gb, off, none⟩) n cap] w fun e w' => e = .returned (.tuple #[]) ∧ Like S w w' := by
  have H : Hid (n ≤ 1024 ∧ S gb ∧ ∀ b, T b → S b ∧ b ≠ gb) := ⟨hn, hS, hT⟩
  have B0 : Hid (SpR w S T gb off n n (.int .i64 0) w) := ⟨0, cur, rfl, by omega, hg, hf, Like.refl _ _⟩
  clear hn hg hS hT hf
  go_enter Tryz.func23, Tryz.ntmps23
  go_wp2
  go_loopg [8] n (fun g v8 wr => SpR w S T gb off n g v8 wr)
  case atStart => exact B0.out
  case round =>
    obtain ⟨k, cu, rfl, hkg, hg, hf, hl⟩ := hrel
    generalize wr = Wk at *
    generalize gk = gO at *
    clear wr gk
    have G : Hid (k + gO = n ∧ n ≤ 1024) := ⟨hkg, H.out.1⟩
    have D : Hid (Wk.heap[gb]? = some (.cells cu 39 (0, 0)) ∧ (∀ j, j < n → FAt Wk T cu (off + j * 11)) ∧ Like S w Wk) := ⟨hg, hf, hl⟩
    clear hkg hg hf hl B0
    by_cases hlt : k < n
    · have hd1 : decide ((k : Int) < (n : Int)) = true := by simp; omega
      have hd2 : decide (k < n) = true := by simp; omega
      have HW : Hid (wrap64 ((k : Int) + 1) = ((k + 1 : Nat) : Int)) := hidD (w64_in _ (by have := G.out; omega))
      obtain ⟨k0, a1, n1, c1, a4, n4, c4, a9, n9, c9, e0, e1, e4, e9, hb, f1, f4, f9⟩ := D.out.2.1 k hlt
      have E : Hid (cu[off + k * 11]? = some (.int .i64 k0) ∧ cu[off + k * 11 + 1]? = some (.slice a1 n1 c1) ∧ cu[off + k * 11 + 4]? = some (.slice a4 n4 c4) ∧ cu[off + k * 11 + 9]? = some (.slice a9 n9 c9) ∧ n1 ≤ 1000000 ∧ n4 ≤ 1000000 ∧ n9 ≤ 1000000) := ⟨e0, e1, e4, e9, hb.1, hb.2.1, hb.2.2⟩
      have F : Hid (Fit Wk T 3 1 (.slice a1 n1 c1) n1 ∧ Fit Wk T 54 2 (.slice a4 n4 c4) n4 ∧ Fit Wk T 3 1 (.slice a9 n9 c9) n9) := ⟨f1, f4, f9⟩
      have q1 : Wk.cell? ⟨gb, off + k * 11 + 1, none⟩ = some (.slice a1 n1 c1) := by simp only [World.cell?, D.out.1]; simpa using E.out.2.1
      have g1 := free_of D.out.1 (off + k * 11 + 1)
      have m1 := lt_of_block D.out.1
      clear e0 e1 e4 e9 hb f1 f4 f9
      go_wp2
      go_loopg [17] n1 (fun g v wr1 => InR Wk T n1 g v wr1)
      case atStart => exact ⟨0, rfl, by omega, Like.refl _ _⟩
      case round =>
        obtain ⟨i, rfl, hig, hl1⟩ := hrel
        have L0 : Hid (i + gk = n1 ∧ Like T Wk wr ∧ Like T Wk wr) := ⟨hig, hl1, hl1⟩
        have D0 : Hid (wr.heap[gb]? = some (.cells cu 39 (0, 0))) := hidD ((L0.out.2.1.turn.block _ m1 fun q => ((H.out.2.2 _ q).2 rfl)).trans D.out.1)
        clear q1 g1 m1
        have q1 : wr.cell? ⟨gb, off + k * 11 + 1, none⟩ = some (.slice a1 n1 c1) := cell_of D0.out _ _ E.out.2.1
        have g1 := free_of D0.out (off + k * 11 + 1)
        have m1 := lt_of_block D0.out
        clear hig hl1
        by_cases hi : i < n1
        · obtain ⟨ga, oa, hv, hTa, hla, hfa, hca⟩ := fit_cell (F.out.1.like L0.out.2.2) hi (by decide)
          subst hv
          obtain ⟨v, hv⟩ := hca 0 (by decide)
          have hfa := hfa (oa + i)
          simp only [Nat.mul_one, Nat.add_zero] at hv
          have hne : ga ≠ gb := (H.out.2.2 _ hTa).2
          have HT : Hid (T ga ∧ i < n1) := ⟨hTa, hi⟩
          have hd3 : decide ((i : Int) < (n1 : Int)) = true := by simp; omega
          have hd4 : decide (i < n1) = true := by simp; omega
          have HI : Hid (wrap64 ((i : Int) + 1) = ((i + 1 : Nat) : Int)) := hidD (w64_in _ (by have := E.out; omega))
          clear hTa hca
          go_wp2
          go_roundg (gk - 1)
          case measure => have := L0.out.1; have := HT.out.2; omega
          case rel => exact ⟨i + 1, by rw [HI.out], by have := L0.out.1; have := HT.out.2; omega, L0.out.2.1.set HT.out.1 _⟩
        · have hd3 : decide ((i : Int) < (n1 : Int)) = false := by simp; omega
          have hd4 : decide (i < n1) = false := by simp; omega
          have c0 : Hid (n1 + 1 ≤ maxLen ∧ (n1 + 1) * 8 ≤ 140737488355328) := hidD (by have := E.out; simp only [maxLen]; omega)
          obtain ⟨xs0, hs0⟩ := (F.out.1.like L0.out.2.2).like (Like.alloc T wr (.cells #[.int .i64 (-2)] 3))
          have S0 : Hid (Sl (wr.alloc (.cells #[.int .i64 (-2)] 3)) T 3 1 (.slice a1 n1 c1) xs0 n1) := hs0
          clear hi hs0
          go_upto_region 9 with (at_builtin; refine wpList_append_like rfl _ _ 34 34 rfl S0.out Tryz.underlying34 info3 rfl (.slice (some ⟨wr.heap.size, 0, none⟩) 1 1) rfl (src_one Tryz.underlying34 _ rfl wr) c0.out.1 c0.out.2 ?_; intro v2 w0 lk; have K0 : Hid (Like T Wk w0) := L0.out.2.2.trans ((Like.alloc T wr _).trans lk); clear lk)
          have B0 : Hid (w0.heap[gb]? = some (.cells cu 39 (0, 0))) := hidD ((K0.out.turn.block _ (lt_of_block D.out.1) fun q => ((H.out.2.2 _ q).2 rfl)).trans D.out.1)
          clear q1 g1 m1 hd3 hd4
          have q4 : w0.cell? ⟨gb, off + k * 11 + 4, none⟩ = some (.slice a4 n4 c4) := cell_of B0.out _ _ E.out.2.2.1
          have g4 := free_of B0.out (off + k * 11 + 4)
          have m4 := lt_of_block B0.out
          go_wp2
          go_loopg [41] n4 (fun g v wr1 => InR w0 T n4 g v wr1)
          case atStart => exact ⟨0, rfl, by omega, Like.refl _ _⟩
          case round =>
            obtain ⟨i, rfl, hig, hl1⟩ := hrel
            have L1 : Hid (i + gk = n4 ∧ Like T w0 wr ∧ Like T Wk wr) := ⟨hig, hl1, K0.out.trans hl1⟩
            have D1 : Hid (wr.heap[gb]? = some (.cells cu 39 (0, 0))) := hidD ((L1.out.2.1.turn.block _ m4 fun q => ((H.out.2.2 _ q).2 rfl)).trans B0.out)
            clear q4 g4 m4
            have q4 : wr.cell? ⟨gb, off + k * 11 + 4, none⟩ = some (.slice a4 n4 c4) := cell_of D1.out _ _ E.out.2.2.1
            have g4 := free_of D1.out (off + k * 11 + 4)
            have m4 := lt_of_block D1.out
            clear hig hl1
            by_cases hi : i < n4
            · obtain ⟨ga, oa, hv, hTa, hla, hfa, hca⟩ := fit_cell (F.out.2.1.like L1.out.2.2) hi (by decide)
              subst hv
              obtain ⟨v, hv⟩ := hca 0 (by decide)
              obtain ⟨v1, hv1⟩ := hca 1 (by decide)
              have hfb := hfa (oa + i * 2 + 1)
              have hfa := hfa (oa + i * 2)
              simp only [Nat.add_zero] at hv
              have hne : ga ≠ gb := (H.out.2.2 _ hTa).2
              have HT : Hid (T ga ∧ i < n4) := ⟨hTa, hi⟩
              have hd3 : decide ((i : Int) < (n4 : Int)) = true := by simp; omega
              have hd4 : decide (i < n4) = true := by simp; omega
              have HI : Hid (wrap64 ((i : Int) + 1) = ((i + 1 : Nat) : Int)) := hidD (w64_in _ (by have := E.out; omega))
              clear hTa hca
              go_wp2
              go_roundg (gk - 1)
              case measure => have := L1.out.1; have := HT.out.2; omega
              case rel => exact ⟨i + 1, by rw [HI.out], by have := L1.out.1; have := HT.out.2; omega, (L1.out.2.1.set HT.out.1 _).set HT.out.1 _⟩
            · have hd3 : decide ((i : Int) < (n4 : Int)) = false := by simp; omega
              have hd4 : decide (i < n4) = false := by simp; omega
              have c1 : Hid (n4 + 1 ≤ maxLen ∧ (n4 + 1) * 24 ≤ 140737488355328) := hidD (by have := E.out; simp only [maxLen]; omega)
              obtain ⟨xs1, hs1⟩ := (F.out.2.1.like L1.out.2.2).like (Like.alloc T wr (.cells #[.string ⟨#[109, 111, 114, 101]⟩, .int .u32 0] 54))
              have S1 : Hid (Sl (wr.alloc (.cells #[.string ⟨#[109, 111, 114, 101]⟩, .int .u32 0] 54)) T 54 2 (.slice a4 n4 c4) xs1 n4) := hs1
              clear hi hs1
              go_upto_region 15 with (at_builtin; refine wpList_append_like rfl _ _ 35 35 rfl S1.out Tryz.underlying35 info54 rfl (.slice (some ⟨wr.heap.size, 0, none⟩) 1 1) rfl ((sl_two wr [109, 111, 114, 101] 0 (S := fun _ => True) trivial).src Tryz.underlying35 (tcells_one _)) c1.out.1 c1.out.2 ?_; intro v2 w1 lk; have K1 : Hid (Like T Wk w1) := L1.out.2.2.trans ((Like.alloc T wr _).trans lk); clear lk)
              have B1 : Hid (w1.heap[gb]? = some (.cells cu 39 (0, 0))) := hidD ((K1.out.turn.block _ (lt_of_block D.out.1) fun q => ((H.out.2.2 _ q).2 rfl)).trans D.out.1)
              clear q4 g4 m4 hd3 hd4
              have q9 : w1.cell? ⟨gb, off + k * 11 + 9, none⟩ = some (.slice a9 n9 c9) := cell_of B1.out _ _ E.out.2.2.2.1
              have g9 := free_of B1.out (off + k * 11 + 9)
              have m9 := lt_of_block B1.out
              go_wp2
              go_loopg [68] n9 (fun g v wr1 => InR w1 T n9 g v wr1)
              case atStart => exact ⟨0, rfl, by omega, Like.refl _ _⟩
              case round =>
                obtain ⟨i, rfl, hig, hl1⟩ := hrel
                have L2 : Hid (i + gk = n9 ∧ Like T w1 wr ∧ Like T Wk wr) := ⟨hig, hl1, K1.out.trans hl1⟩
                have D2 : Hid (wr.heap[gb]? = some (.cells cu 39 (0, 0))) := hidD ((L2.out.2.1.turn.block _ m9 fun q => ((H.out.2.2 _ q).2 rfl)).trans B1.out)
                clear q9 g9 m9
                have q9 : wr.cell? ⟨gb, off + k * 11 + 9, none⟩ = some (.slice a9 n9 c9) := cell_of D2.out _ _ E.out.2.2.2.1
                have g9 := free_of D2.out (off + k * 11 + 9)
                have m9 := lt_of_block D2.out
                clear hig hl1
                by_cases hi : i < n9
                · obtain ⟨ga, oa, hv, hTa, hla, hfa, hca⟩ := fit_cell (F.out.2.2.like L2.out.2.2) hi (by decide)
                  subst hv
                  obtain ⟨v, hv⟩ := hca 0 (by decide)
                  have hfa := hfa (oa + i)
                  simp only [Nat.mul_one, Nat.add_zero] at hv
                  have hne : ga ≠ gb := (H.out.2.2 _ hTa).2
                  have HT : Hid (T ga ∧ i < n9) := ⟨hTa, hi⟩
                  have hd3 : decide ((i : Int) < (n9 : Int)) = true := by simp; omega
                  have hd4 : decide (i < n9) = true := by simp; omega
                  have HI : Hid (wrap64 ((i : Int) + 1) = ((i + 1 : Nat) : Int)) := hidD (w64_in _ (by have := E.out; omega))
                  clear hTa hca
                  go_wp2
                  go_roundg (gk - 1)
                  case measure => have := L2.out.1; have := HT.out.2; omega
                  case rel => exact ⟨i + 1, by rw [HI.out], by have := L2.out.1; have := HT.out.2; omega, L2.out.2.1.set HT.out.1 _⟩
                · have hd3 : decide ((i : Int) < (n9 : Int)) = false := by simp; omega
                  have hd4 : decide (i < n9) = false := by simp; omega
                  have c2 : Hid (n9 + 1 ≤ maxLen ∧ (n9 + 1) * 8 ≤ 140737488355328) := hidD (by have := E.out; simp only [maxLen]; omega)
                  obtain ⟨xs2, hs2⟩ := (F.out.2.2.like L2.out.2.2).like (Like.alloc T wr (.cells #[.int .i64 (-4)] 3))
                  have S2 : Hid (Sl (wr.alloc (.cells #[.int .i64 (-4)] 3)) T 3 1 (.slice a9 n9 c9) xs2 n9) := hs2
                  clear hi hs2
                  go_upto_region 21 with (at_builtin; refine wpList_append_like rfl _ _ 34 34 rfl S2.out Tryz.underlying34 info3 rfl (.slice (some ⟨wr.heap.size, 0, none⟩) 1 1) rfl (src_one Tryz.underlying34 _ rfl wr) c2.out.1 c2.out.2 ?_; intro v2 w2 lk; have K2 : Hid (Like T Wk w2) := L2.out.2.2.trans ((Like.alloc T wr _).trans lk); clear lk)
                  have B2 : Hid (w2.heap[gb]? = some (.cells cu 39 (0, 0))) := hidD ((K2.out.turn.block _ (lt_of_block D.out.1) fun q => ((H.out.2.2 _ q).2 rfl)).trans D.out.1)
                  have q0 : w2.cell? ⟨gb, off + k * 11, none⟩ = some (.int .i64 k0) := cell_of B2.out _ _ E.out.1
                  have g0 := free_of B2.out (off + k * 11)
                  have m0 := lt_of_block B2.out
                  clear q9 g9 m9 hd3 hd4
                  go_wp2
                  go_roundg (n - (k + 1))
                  case measure => have := G.out; omega
                  case rel =>
                    have LT : Like T Wk w2 := K2.out
                    refine ⟨k + 1, cu.setIfInBounds (off + k * 11) (.int .i64 0), by rw [HW.out], by have := G.out; omega, Go.Mine.heap_setCell_same B2.out _, fun j hj => ?_, D.out.2.2.trans ((LT.widen fun b q => (H.out.2.2 b q).1).trans (Like.setCell H.out.2.1 _))⟩
                    exact (((D.out.2.1 j hj).like LT).put).like (Like.setCell (S := fun _ => True) trivial _)
    · have hd1 : decide ((k : Int) < (n : Int)) = false := by simp; omega
      have hd2 : decide (k < n) = false := by simp; omega
      clear hlt
      go_wp2
      simp [bodyPost, results, Tryz.results23, go_sem]
      exact D.out.2.2
end Go.Proofs.YteblabpplaaddaaGreatDoor
