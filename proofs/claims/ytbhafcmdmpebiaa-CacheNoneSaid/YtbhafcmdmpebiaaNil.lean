/- The methods of a nil cache, and the law on it: it answers true. -/
import Derived.Test.YtbhafcmdmpebiaaKeys
import Derived.Test.YtbhafcmdmpebiaaKeeps
namespace Go.Proofs.Ytbhafcmdmpebiaa
open Go.RowKit Go.Mine

theorem put_nil (k v : Int) (w : World) :
    Calls Try.prog 9 #[.pointer none, .int .i64 k, .int .i64 v] w fun e w' => e = .returned (.tuple #[.int .i64 0, .int .i64 0, .bool false]) ∧ w = w' := by
  go_enter Try.func9, Try.ntmps9
  go_wp2
  go_ret3
  exact ⟨rfl, rfl⟩
theorem get_nil (k : Int) (w : World) :
    Calls Try.prog 10 #[.pointer none, .int .i64 k] w fun e w' => e = .returned (.tuple #[.int .i64 0, .bool false]) ∧ w = w' := by
  go_enter Try.func10, Try.ntmps10
  go_wp2
  go_ret2
  exact ⟨rfl, rfl⟩
theorem peek_nil (k : Int) (w : World) :
    Calls Try.prog 11 #[.pointer none, .int .i64 k] w fun e w' => e = .returned (.tuple #[.int .i64 0, .bool false]) ∧ w = w' := by
  go_enter Try.func11, Try.ntmps11
  go_wp2
  go_ret2
  exact ⟨rfl, rfl⟩
theorem drop_nil (k : Int) (w : World) :
    Calls Try.prog 23 #[.pointer none, .int .i64 k] w fun e w' => e = .returned (.bool false) ∧ w = w' := by
  go_enter Try.func23, Try.ntmps23
  go_wp2
  go_ret
  exact ⟨rfl, rfl⟩
theorem room_nil (w : World) :
    Calls Try.prog 19 #[.pointer none] w fun e w' => e = .returned (.int .i64 0) ∧ w = w' := by
  go_enter Try.func19, Try.ntmps19
  go_wp2
  go_ret
  exact ⟨rfl, rfl⟩
theorem len_nil (w : World) :
    Calls Try.prog 12 #[.pointer none] w fun e w' => e = .returned (.int .i64 0) ∧ w = w' := by
  go_enter Try.func12, Try.ntmps12
  go_wp2
  go_ret
  exact ⟨rfl, rfl⟩
theorem keys_nil (w : World) :
    Calls Try.prog 24 #[.pointer none] w fun e w' => e = .returned (.slice none 0 0) ∧ w = w' := by
  go_enter Try.func24, Try.ntmps24
  go_wp2
  go_ret
  exact ⟨rfl, rfl⟩
theorem clear_nil (w : World) :
    Calls Try.prog 22 #[.pointer none] w fun e w' => e = .returned (.tuple #[]) ∧ w = w' := by
  go_enter Try.func22, Try.ntmps22
  go_wp2
  go_end0
  exact ⟨rfl, rfl⟩

set_option maxHeartbeats 600000 in
theorem none_any (k v : Int) (w : World) :
    Calls Try.prog 6 #[.int .i64 k, .int .i64 v] w fun e w' => e = .returned (.bool true) ∧ Turned (fun _ => False) w w' := by
  go_enter Try.func6, Try.ntmps6
  go_wp2_with fail
  refine (keeps_any w).mono ?_
  rintro e w0 ⟨rfl, ht0⟩
  have A0 : Hid (Turned (fun _ => False) w w0) := ht0
  clear ht0
  go_wp2_with (first | (go_at_call 9; (with_reducible refine (put_nil _ _ _).mono ?_); rintro e w' ⟨rfl, rfl⟩) | (go_at_call 10; (with_reducible refine (get_nil _ _).mono ?_); rintro e w' ⟨rfl, rfl⟩) | (go_at_call 11; (with_reducible refine (peek_nil _ _).mono ?_); rintro e w' ⟨rfl, rfl⟩) | (go_at_call 22; (with_reducible refine (clear_nil _).mono ?_); rintro e w' ⟨rfl, rfl⟩) | (go_at_call 23; (with_reducible refine (drop_nil _ _).mono ?_); rintro e w' ⟨rfl, rfl⟩) | (go_at_call 19; (with_reducible refine (room_nil _).mono ?_); rintro e w' ⟨rfl, rfl⟩) | (go_at_call 12; (with_reducible refine (len_nil _).mono ?_); rintro e w' ⟨rfl, rfl⟩) | (go_at_call 24; (with_reducible refine (keys_nil _).mono ?_); rintro e w' ⟨rfl, rfl⟩))
  have hc0 : CacheAt (w0.alloc (.cells #[.int .i64 0, .map none, .pointer none, .pointer none] 62)) (fun b => b = w0.heap.size) w0.heap.size 0 [] none :=
    ⟨⟨heap_alloc_new _ _, trivial, by simp⟩, rfl, by simp, fun b hb => by simpa [RingSet] using hb, fun b hb => by cases hb⟩
  refine (clear_is hc0).mono ?_
  rintro e w1 ⟨rfl, hc1, ht1⟩
  clear hc0
  have A1 : Hid (Turned (fun b => b = w0.heap.size) (w0.alloc (.cells #[.int .i64 0, .map none, .pointer none, .pointer none] 62)) w1) := ht1
  clear ht1
  go_wp2_with fail
  refine (put_full0 (k := k) (v := v) hc1 (by decide) _ _ rfl).mono ?_
  rintro e w2 ⟨rfl, hc2, ht2⟩
  have A2 : Hid (Turned (fun b => b = w0.heap.size) w1 w2) := ht2
  clear ht2 hc1
  have hl := len_is hc2
  have hd := drop_none (k := k) hc2 (by simp)
  clear hc2
  go_wp2_with (first | (go_at_call 12; (with_reducible refine hl.mono ?_); rintro e w' ⟨rfl, rfl⟩) | (go_at_call 23; (with_reducible refine hd.mono ?_); rintro e w' ⟨rfl, rfl⟩))
  go_ret
  refine ⟨rfl, ?_⟩
  have a0 := A0.out; have a1 := A1.out; have a2 := A2.out
  refine ((a0.new _).comp (T := fun _ => False) a1 fun i hi q => ?_).comp a2 fun i hi q => ?_
  all_goals rcases q with q | q
  all_goals try exact q
  all_goals have := a0.size; omega

end Go.Proofs.Ytbhafcmdmpebiaa
