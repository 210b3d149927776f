/- The document's first example runs as it says. -/
import Derived.Test.YtbhafcmdmpebiaaStr
namespace Go.Proofs.Ytbhafcmdmpebiaa
open Go.RowKit Go.Mine

set_option maxHeartbeats 1000000 in
theorem keeps_any (w : World) :
    Calls Try.prog 7 #[] w fun e w' => e = .returned (.bool true) ∧ Turned (fun _ => False) w w' := by
  go_enter Try.func7, Try.ntmps7
  go_wp2_with fail
  refine (Str.new_any 2 w).mono ?_
  rintro e w1 ⟨rfl, hc1, ht1⟩
  have hc1' : Str.CacheAt w1 (fun b => b = w.heap.size) w.heap.size 2 [] none := hc1
  clear hc1
  have hr := Str.room_is hc1'
  go_wp2_with (go_at_call 26; refine hr.mono ?_; rintro e w' ⟨rfl, rfl⟩)
  clear hr
  have A1 : Hid (Turned (fun _ => False) w w1) := ht1
  clear ht1
  refine (Str.put_fits0 (k := ⟨#[97]⟩) (v := 1) hc1' (by decide)).mono ?_
  rintro e w2 ⟨rfl, hc2, ht2⟩
  clear hc1'
  have A2 : Hid (Turned (fun b => b = w.heap.size) w1 w2) := ht2
  clear ht2
  obtain ⟨S2, hS2⟩ : ∃ S2, S2 = More (fun b => b = w.heap.size) w1 := ⟨_, rfl⟩
  rw [← hS2] at hc2
  have B2 : Hid (S2 = More (fun b => b = w.heap.size) w1) := hS2
  clear hS2
  go_wp2_with fail
  refine (Str.put_fits (k := ⟨#[98]⟩) (v := 2) hc2 (by simp) (by simp)).mono ?_
  rintro e w3 ⟨rfl, hc3, ht3⟩
  clear hc2
  have A3 : Hid (Turned S2 w2 w3) := ht3
  clear ht3
  obtain ⟨S3, hS3⟩ : ∃ S3, S3 = More S2 w2 := ⟨_, rfl⟩
  rw [← hS3] at hc3
  have B3 : Hid (S3 = More S2 w2) := hS3
  clear hS3
  go_wp2_with fail
  refine (Str.get_some (l1 := []) hc3).mono ?_
  rintro e w4 ⟨rfl, hc4, ht4⟩
  clear hc3
  have A4 : Hid (Turned S3 w3 w4) := ht4
  clear ht4
  go_wp2_with fail
  refine (Str.put_full (k := ⟨#[99]⟩) (v := 3) hc4 (by simp) (by simp) ⟨w2.heap.size, ⟨#[98]⟩, 2⟩ _ rfl).mono ?_
  rintro e w5 ⟨rfl, hc5, ht5⟩
  clear hc4
  have A5 : Hid (Turned S3 w4 w5) := ht5
  clear ht5
  have hl := Str.len_is hc5
  clear hc5
  go_wp2_with (go_at_call 29; refine hl.mono ?_; rintro e w' ⟨rfl, rfl⟩)
  go_ret
  refine ⟨rfl, ?_⟩
  have a1 := A1.out; have a2 := A2.out; have a3 := A3.out; have a4 := A4.out; have a5 := A5.out
  have hS2 : ∀ b, S2 b → w.heap.size ≤ b := by
    intro b hb; rw [B2.out] at hb
    rcases hb with hb | hb
    · omega
    · have := a1.size; omega
  have hS3 : ∀ b, S3 b → w.heap.size ≤ b := by
    intro b hb; rw [B3.out] at hb
    rcases hb with hb | hb
    · exact hS2 b hb
    · have := a1.size; have := a2.size; omega
  refine (((a1.comp (T := fun _ => False) a2 fun i hi q => ?_).comp (T := fun _ => False) a3 fun i hi q => ?_).comp (T := fun _ => False) a4 fun i hi q => ?_).comp a5 fun i hi q => ?_
  all_goals rcases q with q | q
  all_goals try exact q
  · omega
  · have := hS2 i q; omega
  · have := hS3 i q; omega
  · have := hS3 i q; omega

end Go.Proofs.Ytbhafcmdmpebiaa
