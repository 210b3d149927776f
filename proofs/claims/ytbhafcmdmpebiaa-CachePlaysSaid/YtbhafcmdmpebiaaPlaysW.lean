/- The walk of CachePlays. -/
import Derived.Test.YtbhafcmdmpebiaaStep
import Derived.Test.YtbhafcmdmpebiaaKeeps
namespace Go.Proofs.Ytbhafcmdmpebiaa
open Go.RowKit Go.Mine

def IsOps (w : World) (a : Option Addr) (len cap : Nat) : Prop :=
  len ≤ cap ∧ (0 < len → ∃ b off, a = some ⟨b, off, none⟩ ∧ b < w.heap.size ∧
    ∀ i, i < len → ∃ kd k v : Int, 0 ≤ kd ∧ kd ≤ 255 ∧ w.cell? ⟨b, off + i * 3, none⟩ = some (.int .u8 kd) ∧ w.cell? ⟨b, off + i * 3 + 1, none⟩ = some (.int .i64 k) ∧ w.cell? ⟨b, off + i * 3 + 2, none⟩ = some (.int .i64 v))

theorem len_both {w : World} {B c r : Nat} {room : Int} {kv : KV} (h : Both w B c r room kv) (m : Nat) : Calls Try.prog 12 #[pt c] (w.drewN m) fun e w' => e = .returned (.int .i64 kv.length) ∧ w' = w.drewN m := by
  obtain ⟨S, R, h1, _⟩ := h.turned (Turned.drewN (fun _ => False) w m)
  exact (len_kv h1).mono fun _ _ ⟨q1, q2⟩ => ⟨q1, q2.symm⟩
theorem room_both {w : World} {B c r : Nat} {room : Int} {kv : KV} (h : Both w B c r room kv) (m : Nat) : Calls Try.prog 19 #[pt c] (w.drewN m) fun e w' => e = .returned (.int .i64 room) ∧ w' = w.drewN m := by
  obtain ⟨S, R, h1, _⟩ := h.turned (Turned.drewN (fun _ => False) w m)
  exact (room_kv h1).mono fun _ _ ⟨q1, q2⟩ => ⟨q1, q2.symm⟩
theorem keys_both {w : World} {B c r : Nat} {room : Int} {kv : KV} (h : Both w B c r room kv) :
    Calls Try.prog 21 #[pt c, pt r] w fun e w' => e = .returned (.bool true) ∧ Both w' B c r room kv ∧ Turned (fun _ => False) w w' := by
  have h' := h
  obtain ⟨S, R, h1, h2, h3, h4, h5, h6, h7, h8⟩ := h
  exact (keys_law h1 h2 (hid_len h6 h7)).mono fun _ _ ⟨q1, q2⟩ => ⟨q1, h'.turned q2, q2⟩
theorem ref_both {w : World} {B c r : Nat} {room : Int} {kv : KV} (h : Both w B c r room kv) :
    ∃ a cap, Blk w r #[.int .i64 room, .slice a kv.length cap] 51 ∧ r < w.heap.size ∧ B ≤ r := by
  obtain ⟨S, R, h1, ⟨L, q1, q2, q3⟩, h3, h4, h5, h6, h7, h8⟩ := h
  obtain ⟨a, cap, rfl, -, -⟩ := q3.value
  exact ⟨a, cap, q1, lt_of_block q1, (h5 r q2).1⟩

theorem len_both0 {w : World} {B c r : Nat} {room : Int} {kv : KV} (h : Both w B c r room kv) : Calls Try.prog 12 #[pt c] w fun e w' => e = .returned (.int .i64 kv.length) ∧ w = w' := by
  obtain ⟨S, R, h1, _⟩ := h
  exact len_kv h1

def PRel (w : World) (c r : Nat) (room : Int) (L g : Nat) (i : Value) (wr : World) : Prop :=
  ∃ (j : Nat) (kv : KV), j + g = L ∧ i = .int .i64 j ∧ Both wr w.heap.size c r room kv ∧ Turned (fun b => w.heap.size ≤ b) w wr

set_option maxHeartbeats 1000000 in
theorem plays_any (room : Int) (a : Option Addr) (len cap : Nat) (w : World) (hops : IsOps w a len cap) :
    Calls Try.prog 5 #[.int .i64 room, .slice a len cap] w fun e w' => e = .returned (.bool true) ∧ Turned (fun _ => False) w w' := by
  have R : Hid (IsOps w a len cap) := hops
  have hlc := hops.1
  clear hops
  go_enter Try.func5, Try.ntmps5
  go_wp2_with fail
  refine (keeps_any w).mono ?_
  rintro e w1 ⟨rfl, ht1⟩
  go_wp2_with fail
  refine (new_kv room w1).mono ?_
  rintro e w2 ⟨rfl, hc2, ht2⟩
  go_wp2_with fail
  refine (ref_new room w2).mono ?_
  rintro e w3 ⟨rfl, hr3, ht3⟩
  obtain ⟨c, hcw⟩ : ∃ c, c = w1.heap.size := ⟨_, rfl⟩
  obtain ⟨r, hrw⟩ : ∃ r, r = w2.heap.size := ⟨_, rfl⟩
  rw [← hcw] at hc2 ⊢
  rw [← hrw] at hr3 ⊢
  obtain ⟨Q, hQ⟩ : ∃ Q, Q = min (max room 0) 4096 := ⟨_, rfl⟩
  rw [← hQ] at hc2 hr3
  have hB : Both w3 w.heap.size c r Q [] := by
    have s1 := ht1.size; have s2 := ht2.size; have s3 := ht3.size
    have hc3 := hc2.bound.turned ht3 fun _ _ q => q
    have hrr : r < w3.heap.size := by obtain ⟨_, q, _⟩ := hr3; exact lt_of_block q
    refine ⟨_, _, hc3, hr3, fun b q z => ?_, fun b q => ?_, fun b q => ?_, ?_, ?_, by omega⟩
    · have := q.2; have := q.1; omega
    · have := q.2; have := q.1; omega
    · omega
    · simp; omega
    · omega
  have hT : Hid (Turned (fun b => w.heap.size ≤ b) w w3) := ((ht1.trans ht2 fun _ _ q => q).trans ht3 fun _ _ q => q).mono fun _ _ q => q.elim
  have hl := len_both hB
  have hro := room_both hB
  obtain ⟨a3, cap3, hb3, hr3', -⟩ := ref_both hB
  have r0 := cell_of hb3 0 _ rfl
  have HB : Hid (Both w3 w.heap.size c r Q []) := hB
  have hQQ : (Q != Q) = false := by simp
  have h00 : ((([] : KV).length : Int) != 0) = false := by simp
  clear hc2 hr3 ht1 ht2 ht3 hB hb3 hcw hrw hQ
  go_wp2
  go_quiet ((first | (go_at_call 19; exact Calls.quiet_of_same (hro _)) | (go_at_call 12; exact Calls.quiet_of_same (hl _))))
  clear hl hro r0
  obtain ⟨L, hL, hLl, hLc, hL5⟩ : ∃ L : Nat, (if (2000 : Int) < (len : Int) then 2000 else (len : Int)) = (L : Int) ∧ L ≤ len ∧ L ≤ cap ∧ L ≤ 2000 := ⟨min len 2000, by split <;> omega, by omega, by omega, by omega⟩
  have D : Hid (L ≤ len) := hLl
  clear hLl
  go_wp2
  have HS : Hid (PRel w c r Q L L (.int .i64 0) (w3.drewN nq)) := ⟨0, [], Nat.zero_add _, rfl, HB.out.turned (Turned.drewN _ _ _), hT.out.trans (Turned.drewN (fun b => w.heap.size ≤ b) _ _) fun _ _ q => q⟩
  go_loopg [37] L (fun g i wr => PRel w c r Q L g i wr)
  case atStart => exact HS.out
  case round =>
    obtain ⟨j, kv, hjg, rfl, hB, ht⟩ := hrel
    clear HS HB hT
    by_cases hlt : j < L
    · have hL1 := D.out
      obtain ⟨b, off, rfl, hbw, hel⟩ := R.out.2 (by omega)
      obtain ⟨kd, k, v, h0, h255, c0, c1, c2⟩ := hel j (by omega)
      have hs := ht.size
      rw [← World.cell?_of_block (w' := wr) (ht.block b hbw (by omega))] at c0 c1 c2
      have hbr : b < wr.heap.size := by omega
      have X : Hid (Both wr w.heap.size c r Q kv ∧ Turned (fun b => w.heap.size ≤ b) w wr) := ⟨hB, ht⟩
      clear hB ht hel R hbw hs
      go_wp2
      have hst := step_any kd k v (X.out.1.turned ((Turned.alloc (fun _ => False) wr (opb kd k v)).draw)) h0 h255
      go_region_with (first | (go_at_call 20; (with_reducible refine hst.mono ?_); rintro e w5 ⟨rfl, kv5, hB5, ht5⟩; have hl5 := len_both0 hB5; obtain ⟨a5, cap5, hb5, -, -⟩ := ref_both hB5; have r5 := cell_of hb5 1 _ rfl; have Z : Hid (Both w5 w.heap.size c r Q kv5 ∧ Turned (fun b => w.heap.size ≤ b) _ w5) := ⟨hB5, ht5⟩; clear hB5 ht5 hb5) | (go_at_call 12; (with_reducible refine hl5.mono ?_); rintro e w6 ⟨rfl, rfl⟩))
      all_goals go_wp2
      all_goals
        go_roundg (gk - 1)
        case measure => omega
        case rel => exact ⟨j + 1, kv5, by omega, rfl, Z.out.1, ((X.out.2.new _).draw).trans Z.out.2 fun _ _ q => q⟩
    · have hk := keys_both hB
      have T : Hid (Turned (fun b => w.heap.size ≤ b) w wr) := ht
      clear hB ht R D
      go_wp2_with fail
      refine hk.mono ?_
      rintro e w5 ⟨rfl, hB5, ht5⟩
      have hk5 := keys_both hB5
      have T5 : Hid (Turned (fun _ => False) wr w5) := ht5
      clear hk hB5 ht5
      go_wp2_with fail
      refine hk5.mono ?_
      rintro e w6 ⟨rfl, hB6, ht6⟩
      clear hk5
      go_wp2
      go_ret
      exact ⟨rfl, ((T.out.trans T5.out fun _ _ q => q.elim).trans ht6 fun _ _ q => q.elim).mono fun i hi q => by omega⟩

end Go.Proofs.Ytbhafcmdmpebiaa
