/- The document's numbers as bytes, and a text with its sum. -/
import Derived.Test.YtfeljngmidhajaaRsum
namespace Go.Proofs.Ytfeljngmidhajaa
open Go.RowKit Go.Mine

def RSumRel (w : World) (s : ByteArray) (g : Nat) (x i : Value) (wr : World) : Prop :=
  (g = 1 ∧ i = .int .i64 0 ∧ x = .int .u32 0 ∧ wr = w) ∨ (g = 0 ∧ i = .int .i64 1 ∧ x = .int .u32 (Crc.sum (nums s) : Nat) ∧ wr = w)

set_option maxRecDepth 100000 in
set_option maxHeartbeats 1000000 in
theorem rsum_one (b off cap : Nat) (s : ByteArray) (w : World) (hb : w.cell? ⟨b, off, none⟩ = some (.string s)) (hbl : b < w.heap.size) (hs : s.size ≤ 4611686018427387904) :
    Calls Try.prog 63 #[.slice (some ⟨b, off, none⟩) 1 cap] w fun e w' => e = .returned (.int .u32 (Crc.sum (nums s) : Nat)) ∧ w = w' := by
  have hm := more_any s w hs
  clear hs
  generalize hS : Crc.sum (nums s) = S at *
  have E : Hid (Crc.sum (nums s) = S) := hS
  clear hS
  go_enter Try.func63, Try.ntmps63
  go_wp2
  go_loopg [3, 4] 1 (fun g x i wr => RSumRel w s g x i wr)
  case atStart => exact .inl ⟨rfl, rfl, rfl, rfl⟩
  case round =>
    rcases hrel with ⟨rfl, rfl, rfl, rfl⟩ | ⟨rfl, rfl, rfl, rfl⟩
    · go_wp2_with (go_at_call 89; (with_reducible refine hm.mono ?_); rintro e w' ⟨rfl, rfl⟩)
      go_roundg 0
      case measure => omega
      case rel => exact .inr ⟨rfl, rfl, by rw [E.out], rfl⟩
    · rw [E.out]
      go_wp2
      go_ret
      exact ⟨rfl, rfl⟩

/-- the row of a number's bytes, j of them laid -/
def nrow (v n j : Nat) : Array Value := ((List.range n).map fun i => Value.int .u8 (if i < j then ((v / 256 ^ (n - 1 - i) % 256 : Nat) : Int) else 0)).toArray
theorem nrow_size (v n j : Nat) : (nrow v n j).size = n := by simp [nrow]
theorem nrow_get (v n j i : Nat) (h : i < n) : (nrow v n j)[i]? = some (.int .u8 (if i < j then ((v / 256 ^ (n - 1 - i) % 256 : Nat) : Int) else 0)) := by simp [nrow, h]
theorem nrow_set (v n i : Nat) (h : i < n) : (nrow v n i).setIfInBounds i (.int .u8 ((v / 256 ^ (n - 1 - i) % 256 : Nat) : Int)) = nrow v n (i + 1) := by
  apply Array.ext_getElem?
  intro j
  rw [Array.getElem?_setIfInBounds]
  by_cases hj : j < n
  · rw [nrow_get _ _ _ _ hj, nrow_get _ _ _ _ hj, nrow_size]
    by_cases hij : i = j
    · subst hij; simp [h]
    · rw [if_neg hij]
      have : (j < i) = (j < i + 1) := by apply propext; omega
      simp [this]
  · have h1 : (nrow v n i)[j]? = none := by rw [Array.getElem?_eq_none]; rw [nrow_size]; omega
    have h2 : (nrow v n (i + 1))[j]? = none := by rw [Array.getElem?_eq_none]; rw [nrow_size]; omega
    rw [h1, h2, if_neg (by omega)]
theorem made_nrow (v n : Nat) : madeCells #[.int .u8 0] (n * 1) = nrow v n 0 := by
  apply Array.ext_getElem?
  intro i
  by_cases hi : i < n
  · rw [nrow_get _ _ _ _ hi]
    simp [madeCells, hi, Nat.mod_one]
  · have h1 : (nrow v n 0)[i]? = none := by rw [Array.getElem?_eq_none]; rw [nrow_size]; omega
    have h2 : (madeCells #[Value.int .u8 0] (n * 1))[i]? = none := by rw [Array.getElem?_eq_none]; rw [size_madeCells]; omega
    rw [h1, h2]
theorem make_nrow (v n : Nat) (hn : n ≤ 8) (w : World) : (Instr.makeSlice 51 (.int .i64 n) (.int .i64 n)).run Try.prog w = .ok (.slice (some ⟨w.heap.size, 0, none⟩) n n) (w.alloc (.cells (nrow v n 0) 5)) := by
  have hinf : (Try.prog.info? 5).map (fun i => (i.zero, i.size, i.bytes)) = some (some (.int .u8 0), 1, 1) := by kernel_rfl
  obtain ⟨i, hi, hz0, hz1, hz2⟩ := info_parts hinf
  have := run_make (P := Try.prog) w 51 5 i _ Try.underlying51 hi hz0 .i64 .i64 n n (by omega) (by omega) (by rw [hz2]; omega) (by omega)
  rw [hz1] at this
  simp only [Value.cells, made_nrow v n, Int.toNat_natCast] at this
  exact this
theorem nrow_back (v n : Nat) (w : World) : (convert 51 9 (.slice (some ⟨w.heap.size, 0, none⟩) n n)).run Try.prog (w.alloc (.cells (nrow v n n) 5)) = .ok (.string ⟨(num v n).toArray⟩) (w.alloc (.cells (nrow v n n) 5)) := by
  have := run_convert_bytes_back (P := Try.prog) (w.alloc (.cells (nrow v n n) 5)) 51 9 5 ⟨w.heap.size, 0, none⟩ n (num v n) Try.underlying51 Try.underlying5 Try.underlying9 (fun j hj => by
    have hj2 : j < n := by rw [num_length] at hj; exact hj
    have hc := cell_of (heap_alloc_last w (.cells (nrow v n n) 5)) j _ (nrow_get v n n j hj2)
    rw [Addr.add_lit, Nat.zero_add, hc, if_pos hj2, num_getElem]
    simp)
  rw [num_length] at this
  exact this

def NumRel (w : World) (v n : Nat) (g : Nat) (i : Value) (wr : World) : Prop :=
  ∃ j : Nat, j + g = n ∧ i = .int .i64 j ∧ wr = w.alloc (.cells (nrow v n j) 5)

set_option maxRecDepth 100000 in
set_option maxHeartbeats 1000000 in
theorem number_any (v n : Nat) (w : World) (hv : v < 18446744073709551616) (hn : n ≤ 8) :
    Calls Try.prog 50 #[.int .u64 v, .int .i64 n] w fun e w' => e = .returned (.string ⟨(num v n).toArray⟩) ∧ Turned (fun _ => False) w w' := by
  have V : Hid (v < 18446744073709551616) := hv
  have hmk := make_nrow v n hn
  have hbk := nrow_back v n w
  clear hv
  go_enter Try.func50, Try.ntmps50
  go_wp2
  clear hmk
  go_loopg [6] n (fun g i wr => NumRel w v n g i wr)
  case atStart => exact ⟨0, Nat.zero_add _, rfl, rfl⟩
  case round =>
    obtain ⟨j, hjg, rfl, rfl⟩ := hrel
    by_cases hlt : j < n
    · have hset := nrow_set v n j hlt
      have hcast : ((v / 256 ^ (n - 1 - j) % 256 : Nat) : Int) = (v : Int) / 2 ^ (8 * (n - 1 - j)) % 256 := by
        rw [show (256 : Nat) = 2 ^ 8 from rfl, ← Nat.pow_mul]
        push_cast
        rfl
      have hset2 : (nrow v n j).setIfInBounds j (.int .u8 ((v : Int) / 2 ^ (8 * (n - 1 - j)) % 256)) = nrow v n (j + 1) := by rw [← hcast]; exact hset
      clear hcast hset
      have hsz := nrow_size v n j
      have hg := nrow_get v n j j hlt
      rw [if_neg (by omega)] at hg
      go_wp2
      go_roundg (n - j - 1)
      case measure => omega
      case rel => exact ⟨j + 1, by omega, rfl, rfl⟩
    · obtain rfl : j = n := by omega
      go_wp2
      go_ret
      exact ⟨rfl, Turned.alloc _ _ _⟩

/-- a text and its sum -/
def sealed (s : ByteArray) : ByteArray := s ++ ⟨(num (Crc.sum (nums s)) 4).toArray⟩
theorem num_size (v n : Nat) : (⟨(num v n).toArray⟩ : ByteArray).size = n := by
  show (num v n).toArray.size = n
  simp [num_length]
theorem sealed_size (s : ByteArray) : (sealed s).size = s.size + 4 := by
  unfold sealed
  rw [ByteArray.size_append', num_size]
theorem crcsum_lt (s : ByteArray) : Crc.sum (nums s) < 4294967296 := by rw [crcsum_eq]; omega

set_option maxRecDepth 100000 in
set_option maxHeartbeats 1000000 in
theorem sealed_any (s : ByteArray) (w : World) (hs : s.size ≤ 4611686018427387904) :
    Calls Try.prog 31 #[.string s] w fun e w' => e = .returned (.string (sealed s)) ∧ Turned (fun _ => False) w w' := by
  have hS := crcsum_lt s
  have hsum := rsum_one w.heap.size 0 1 s (w.alloc (.cells #[.string s] 9)) (cell_of (heap_alloc_last w _) 0 _ rfl) (by simp) hs
  have E : Hid (sealed s = s ++ ⟨(num (Crc.sum (nums s)) 4).toArray⟩) := rfl
  have hn : ∀ w, Calls Try.prog 50 #[.int .u64 (Crc.sum (nums s) : Nat), .int .i64 4] w fun e w' => e = .returned (.string ⟨(num (Crc.sum (nums s)) 4).toArray⟩) ∧ Turned (fun _ => False) w w' := fun w => number_any (Crc.sum (nums s)) 4 w (by omega) (by omega)
  have hz : s.size + (⟨(num (Crc.sum (nums s)) 4).toArray⟩ : ByteArray).size ≤ 9223372036854775807 := by rw [num_size]; omega
  have hadd : ∀ w, (Op.stringOp .add s ⟨(num (Crc.sum (nums s)) 4).toArray⟩).run Try.prog w = .ok (.string (sealed s)) w := fun w => run_string_add_sum w s _ hz
  have H : Hid (Crc.sum (nums s) < 4294967296) := hS
  clear hs hz
  generalize (⟨(num (Crc.sum (nums s)) 4).toArray⟩ : ByteArray) = t at *
  generalize Crc.sum (nums s) = S at *
  have hm : ((S : Int) % 18446744073709551616) = S := by omega
  clear hS
  go_enter Try.func31, Try.ntmps31
  go_wp2_with (first | (go_at_call 63; (with_reducible refine hsum.mono ?_); rintro e w' ⟨rfl, rfl⟩) | (go_at_call 50; (with_reducible refine (hn _).mono ?_); rintro e w2 ⟨rfl, ht⟩))
  go_ret
  exact ⟨rfl, (Turned.alloc _ _ _).trans ht fun _ _ q => q⟩
end Go.Proofs.Ytfeljngmidhajaa
