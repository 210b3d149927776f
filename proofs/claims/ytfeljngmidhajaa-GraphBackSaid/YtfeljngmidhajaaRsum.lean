/- The document's sum of one text. -/
import Derived.Test.YtfeljngmidhajaaSum4
namespace Go.Proofs.Ytfeljngmidhajaa
open Go.RowKit Go.Mine

def MoreRel (w : World) (s : ByteArray) (g : Nat) (x i : Value) (wr : World) : Prop :=
  ∃ j : Nat, j + g = s.size ∧ i = .int .i64 j ∧ x = .int .u32 (Crc.feed 4294967295 ((nums s).take j) : Nat) ∧ wr = w

theorem byte_at (s : ByteArray) (j : Nat) (h : j < s.size) : (nums s)[j]? = some s[j].toNat := by
  unfold nums
  rw [List.getElem?_map]
  have h2 : s.data.toList[j]? = some s.data[j] := by rw [Array.getElem?_toList]; exact Array.getElem?_eq_getElem h
  rw [h2]
  rfl

set_option maxRecDepth 100000 in
set_option maxHeartbeats 1000000 in
theorem more_any (s : ByteArray) (w : World) (hs : s.size ≤ 4611686018427387904) :
    Calls Try.prog 89 #[.int .u32 0, .string s] w fun e w' => e = .returned (.int .u32 (Crc.sum (nums s) : Nat)) ∧ w = w' := by
  rw [crcsum_eq]
  have hF : Hid (Crc.feed 4294967295 (nums s) < 4294967296) := feed_nums_lt _ s (by decide)
  have W : Hid (s.size ≤ 4611686018427387904) := hs
  have hn := not_u32 0 (by decide)
  simp at hn
  clear hs
  go_enter Try.func89, Try.ntmps89
  go_wp2
  go_loopg [5, 6] s.size (fun g x i wr => MoreRel w s g x i wr)
  case atStart => exact ⟨0, Nat.zero_add _, rfl, rfl, rfl⟩
  case round =>
    obtain ⟨j, hjg, rfl, rfl, rfl⟩ := hrel
    by_cases hlt : j < s.size
    · have hb := byte_at s j hlt
      have hb2 : s[j].toNat < 256 := s[j].toNat_lt
      have hi : s[j]? = some s[j] := ByteArray.getElem?_lt' s j hlt
      have hfn := feed_next 4294967295 _ j _ hb
      have hf := Crc.feed_lt 4294967295 ((nums s).take j) (by decide) fun x hx => nums_lt s x (List.mem_of_mem_take hx)
      have N : Hid (Crc.feed 4294967295 ((nums s).take (j + 1)) = _) := hfn
      clear hfn hb
      generalize Crc.feed 4294967295 ((nums s).take j) = f at *
      have hx : bits .xor .u32 (f : Int) ((s[j].toNat : Int) % 4294967296) = ((f ^^^ s[j].toNat : Nat) : Int) := by
        rw [Int.emod_eq_of_lt (by omega) (by omega)]
        exact u32_xor_nat f s[j].toNat hf (by omega)
      have hx2 : f ^^^ s[j].toNat < 4294967296 := Nat.xor_lt_two_pow (n := 32) hf (by omega)
      generalize f ^^^ s[j].toNat = x at *
      have hw : wrap64 ((j : Int) + 1) = ((j + 1 : Nat) : Int) := by have := W.out; simp [wrap64]; omega
      have X2 : Hid (x < 4294967296) := hx2
      clear hf hb2 hx2
      go_wp2
      have ht : ∀ (m : Nat) w, Calls Try.prog 116 #[.int .u32 (Crc.turns m x : Nat)] w fun e w' => e = .returned (.int .u32 (Crc.turns (m + 1) x : Nat)) ∧ w = w' := by
        intro m w
        rw [Crc.turns_succ]
        exact turn_ref _ (Crc.turns_lt m x X2.out) w
      go_loopg [5, 7] 8 (fun g c k wq => ∃ m : Nat, m + g = 8 ∧ k = .int .i64 m ∧ c = .int .u32 (Crc.turns m x : Nat) ∧ wq = wr)
      case atStart => exact ⟨0, rfl, rfl, by simp [Crc.turns], rfl⟩
      case round =>
        obtain ⟨m, hmg, rfl, rfl, rfl⟩ := hrel
        by_cases hm : m < 8
        · go_wp2_with (go_at_call 116; (with_reducible refine (ht _ _).mono ?_); rintro e w' ⟨rfl, rfl⟩)
          go_roundg (7 - m)
          case measure => omega
          case rel => exact ⟨m + 1, by omega, rfl, rfl, rfl⟩
        · obtain rfl : m = 8 := by omega
          go_wp2
          go_roundg (s.size - j - 1)
          case measure => omega
          case rel => exact ⟨j + 1, by omega, by rw [hw], by rw [N.out], rfl⟩
    · have he : (nums s).take j = nums s := List.take_of_length_le (by rw [nums_length]; omega)
      rw [he]
      have hf := not_u32 _ hF.out
      go_wp2
      go_ret
      exact ⟨rfl, rfl⟩
end Go.Proofs.Ytfeljngmidhajaa
