/- The document's examples. -/
import Derived.Test.YtfeljngmidhajaaDoorName
import Derived.Test.YtfeljngmidhajaaDoorLnN
import Derived.Test.YtfeljngmidhajaaDoorLnE
import Derived.Test.YtfeljngmidhajaaDoorSeal
namespace Go.Proofs.YtfeljngmidhajaaDoor
open Go.RowKit Go.Mine

theorem lnIs_one (x : Ln) (w : World) (hx : I64 x.1 ∧ I64 x.2.1 ∧ x.2.2 < 4294967296) : LnIs (w.alloc (.cells #[.int .i64 x.1, .int .i64 x.2.1, .int .u32 (x.2.2 : Nat)] 43)) (some ⟨w.heap.size, 0, none⟩) 1 [x] := by
  refine ⟨Nat.le_refl _, by simp [maxLen], fun y hy => by rw [List.mem_singleton] at hy; subst hy; exact hx, fun _ => ⟨w.heap.size, 0, rfl, by simp, fun i y hi => ?_⟩⟩
  rcases i with _ | i
  · obtain rfl : x = y := by simpa using hi
    have hh := heap_alloc_last w (.cells #[.int .i64 x.1, .int .i64 x.2.1, .int .u32 (x.2.2 : Nat)] 43)
    exact ⟨cell_of hh 0 _ rfl, cell_of hh 1 _ rfl, cell_of hh 2 _ rfl⟩
  · simp at hi

theorem lnIs_two (x y : Ln) (w : World) (hx : I64 x.1 ∧ I64 x.2.1 ∧ x.2.2 < 4294967296) (hy : I64 y.1 ∧ I64 y.2.1 ∧ y.2.2 < 4294967296) : LnIs (w.alloc (.cells #[.int .i64 x.1, .int .i64 x.2.1, .int .u32 (x.2.2 : Nat), .int .i64 y.1, .int .i64 y.2.1, .int .u32 (y.2.2 : Nat)] 43)) (some ⟨w.heap.size, 0, none⟩) 2 [x, y] := by
  have hh := heap_alloc_last w (.cells #[.int .i64 x.1, .int .i64 x.2.1, .int .u32 (x.2.2 : Nat), .int .i64 y.1, .int .i64 y.2.1, .int .u32 (y.2.2 : Nat)] 43)
  refine ⟨Nat.le_refl _, by simp [maxLen], fun z hz => ?_, fun _ => ⟨w.heap.size, 0, rfl, by simp, fun i z hi => ?_⟩⟩
  · simp only [List.mem_cons, List.not_mem_nil, or_false] at hz
    rcases hz with rfl | rfl
    · exact hx
    · exact hy
  · rcases i with _ | _ | i
    · obtain rfl : x = z := by simpa using hi
      exact ⟨cell_of hh 0 _ rfl, cell_of hh 1 _ rfl, cell_of hh 2 _ rfl⟩
    · obtain rfl : y = z := by simpa using hi
      exact ⟨cell_of hh 3 _ rfl, cell_of hh 4 _ rfl, cell_of hh 5 _ rfl⟩
    · simp at hi

theorem told_example : encV [(3, 2, 9)] = .tuple #[.string (sealed ⟨#[80, 68, 71, 77, 1, 1, 0, 0, 0, 3, 0, 0, 0, 2, 0, 0, 0, 9]⟩), .int .i64 0] := by
  have h0 : lnErr [(3, 2, 9)] = 0 := by decide
  have h1 : bodyLn [(3, 2, 9)] = [80, 68, 71, 77, 1, 1, 0, 0, 0, 3, 0, 0, 0, 2, 0, 0, 0, 9] := by decide
  unfold encV toldLn
  rw [if_pos h0, h1]

set_option maxRecDepth 100000 in
set_option maxHeartbeats 1000000 in
theorem links_any (w : World) (ht : Tab w) : Calls Tryd.prog 6 #[] w fun e w' => e = .returned (.bool true) ∧ Turned (fun _ => False) w w' := by
  have HT : Hid (Tab w) := ht
  have hen : Calls Tryd.prog 9 #[.slice (some ⟨w.heap.size, 0, none⟩) 1 1] (w.alloc (.cells #[.int .i64 3, .int .i64 2, .int .u32 9] 43)) fun e w' => e = .returned (encV [(3, 2, 9)]) ∧ Turned (fun _ => False) (w.alloc (.cells #[.int .i64 3, .int .i64 2, .int .u32 9] 43)) w' :=
    encode_any _ 1 [(3, 2, 9)] _ (lnIs_one (3, 2, 9) w (by unfold I64; decide))
  rw [told_example] at hen
  have hse := fun W => sealed_any ⟨#[80, 68, 71, 77, 1, 1, 0, 0, 0, 3, 0, 0, 0, 2, 0, 0, 0, 9]⟩ W (by decide)
  have hnm : ∀ W, Tab W → Calls Tryd.prog 13 #[.int .i64 120] W fun e w' => e = .returned (.string ⟨#[103, 114, 97, 112, 104, 45, 49, 50, 48]⟩) ∧ Turned (fun _ => False) W w' := fun W h => by
    have := name_any 120 (by unfold I64; decide) W h
    rw [name120] at this
    exact this
  have hnx : ∀ W : World, Calls Tryd.prog 17 #[.slice (some ⟨W.heap.size, 0, none⟩) 2 2] (W.alloc (.cells #[.int .i64 3, .int .i64 0, .int .u32 0, .int .i64 7, .int .i64 0, .int .u32 0] 43)) fun e w' => e = .returned (.int .i64 8) ∧ Turned (fun _ => False) (W.alloc (.cells #[.int .i64 3, .int .i64 0, .int .u32 0, .int .i64 7, .int .i64 0, .int .u32 0] 43)) w' := fun W =>
    next_any _ 2 [(3, 0, 0), (7, 0, 0)] _ (lnIs_two (3, 0, 0) (7, 0, 0) W (by unfold I64; decide) (by unfold I64; decide)) (by simp) (by unfold Low; decide)
  generalize sealed ⟨#[80, 68, 71, 77, 1, 1, 0, 0, 0, 3, 0, 0, 0, 2, 0, 0, 0, 9]⟩ = s at *
  clear ht
  go_enter Tryd.func6, Tryd.ntmps6
  go_wp2_with (first
    | (go_at_call 9; (with_reducible refine hen.mono ?_); rintro e w1 ⟨rfl, ht1⟩; have T1 : Hid (Turned (fun _ => False) w w1) := (Turned.alloc _ w _).trans ht1 (fun _ _ q => q); clear ht1)
    | (go_at_call 8; (with_reducible refine (hse _).mono ?_); rintro e w2 ⟨rfl, ht2⟩; have T2 : Hid (Turned (fun _ => False) w w2) := T1.out.trans ht2 (fun _ _ q => q); clear ht2; have hnm2 := hnm w2 (HT.out.turned T2.out))
    | (go_at_call 13; (with_reducible refine hnm2.mono ?_); rintro e w3 ⟨rfl, ht3⟩; have T3 : Hid (Turned (fun _ => False) w w3) := T2.out.trans ht3 (fun _ _ q => q); clear ht3)
    | (go_at_call 17; (with_reducible refine (hnx _).mono ?_); rintro e w4 ⟨rfl, ht4⟩; have T4 : Hid (Turned (fun _ => False) w w4) := (T3.out.new _).trans ht4 (fun _ _ q => q); clear ht4))
  go_ret
  exact ⟨rfl, T4.out⟩
end Go.Proofs.YtfeljngmidhajaaDoor
