/- A text's bytes taken into the sum by the table. -/
import Derived.Test.YtfeljngmidhajaaSum2
namespace Go.Proofs.Ytfeljngmidhajaa
open Go.RowKit Go.Mine

abbrev pt (b : Nat) : Value := .pointer (some ⟨b, 0, none⟩)
def Blk (w : World) (b : Nat) (c : Array Value) (T : TypeId) : Prop := w.heap[b]? = some (.cells c T (0, 0))
theorem Blk.turned {S : Nat → Prop} {w w' : World} {b : Nat} {c : Array Value} {T : TypeId} (h : Blk w b c T) (ht : Turned S w w') (hb : ¬ S b) : Blk w' b c T :=
  (ht.block b (lt_of_block h) hb).trans h

/-- a text's bytes, as numbers -/
def nums (s : ByteArray) : List Nat := s.data.toList.map (·.toNat)
theorem nums_length (s : ByteArray) : (nums s).length = s.size := by
  unfold nums
  rw [List.length_map, Array.length_toList]
  rfl
theorem nums_lt (s : ByteArray) : ∀ b ∈ nums s, b < 256 := by
  intro b hb
  obtain ⟨x, _, rfl⟩ := List.mem_map.1 hb
  exact x.toNat_lt

/-- '[]byte(s)' -/
theorem bytes_of (w : World) (s : ByteArray) : ∃ cap w1, (convert 9 51 (.string s)).run Try.prog w = .ok (.slice (some ⟨w.heap.size, 0, none⟩) s.size cap) w1 ∧ Turned (fun _ => False) w w1 ∧ w.heap.size < w1.heap.size ∧
    s.size ≤ cap ∧ (∀ j x, (nums s)[j]? = some x → w1.cell? ⟨w.heap.size, j, none⟩ = some (.int .u8 (x : Nat))) ∧ (∀ j, j < s.size → w1.frozen? ⟨w.heap.size, j, none⟩ = false) ∧
    ∃ cur, w1.heap[w.heap.size]? = some (.cells cur 5 (cur.size, cur.size + 1)) ∧ s.size ≤ cur.size := by
  have h := run_bytes_of_string (P := Try.prog) w 9 51 5 s Try.underlying9 Try.underlying51 Try.underlying5
  have hsz : s.size ≤ (bytesRow s (grownCap w s.size 0 5)).size := by
    unfold bytesRow
    rw [Array.size_append, Array.size_map]
    exact Nat.le_add_right s.data.size _
  refine ⟨_, _, h, (Turned.drew _ _).trans (Turned.alloc _ _ _) fun _ _ q => q, by simp, ?_, ?_, ?_, ?_⟩
  · exact grownCap_ge w s.size 0 5
  · intro j x hj
    have hl : j < s.data.size := by
      have := (List.getElem?_eq_some_iff.1 hj).1
      rw [nums_length] at this
      exact this
    have hc := World.cell?_alloc_mark w.drew (bytesRow s (grownCap w s.size 0 5)) 5 ((bytesRow s (grownCap w s.size 0 5)).size, (bytesRow s (grownCap w s.size 0 5)).size + 1) j
    rw [bytesRow_at s _ j hl] at hc
    have hx : s.data[j].toNat = x := by
      unfold nums at hj
      rw [List.getElem?_map] at hj
      have h2 : s.data.toList[j]? = some s.data[j] := by rw [Array.getElem?_toList]; exact Array.getElem?_eq_getElem hl
      rw [h2] at hj
      exact Option.some.inj hj
    rw [hx] at hc
    exact hc
  · intro j hj
    have hc := World.frozen?_alloc_mark w.drew (bytesRow s (grownCap w s.size 0 5)) 5 (bytesRow s (grownCap w s.size 0 5)).size ((bytesRow s (grownCap w s.size 0 5)).size + 1) j
    have h1 : decide ((bytesRow s (grownCap w s.size 0 5)).size ≤ j) = false := by simp; omega
    rw [h1] at hc
    exact hc
  · refine ⟨_, ?_, hsz⟩
    exact heap_alloc_last w.drew _

def TakeRel (w1 : World) (c : Nat) (s : ByteArray) (g : Nat) (x i : Value) (wr : World) : Prop :=
  ∃ j : Nat, j + g = s.size ∧ i = .int .i64 j ∧ x = .int .u32 (Crc.feed c ((nums s).take j) : Nat) ∧ wr = w1

theorem feed_next (c : Nat) (l : List Nat) (j x : Nat) (h : l[j]? = some x) : Crc.feed c (l.take (j + 1)) = Crc.turns 8 (Crc.feed c (l.take j) ^^^ x) := by
  rw [List.take_add_one, h, Crc.feed_append]
  rfl

set_option maxRecDepth 100000 in
set_option maxHeartbeats 1000000 in
theorem take_any (g c : Nat) (s : ByteArray) (w : World) (hg : Blk w g (tab 256) 107) (hc : c < 4294967296) (hs : s.size ≤ 4611686018427387904) :
    Calls Try.prog 78 #[pt g, .int .u32 c, .string s] w fun e w' => e = .returned (.int .u32 (Crc.feed c (nums s) : Nat)) ∧ Turned (fun _ => False) w w' := by
  obtain ⟨cap, w1, hconv, ht, hlt, hcap, hcell, -, -⟩ := bytes_of w s
  have hg1 : Blk w1 g (tab 256) 107 := hg.turned ht fun q => q
  have htab : ∀ x, x < 256 → w1.cell? ⟨g, x, none⟩ = some (.int .u32 (Crc.turns 8 x : Nat)) := by
    intro x hx
    have := cell_of hg1 x (.int .u32 (Crc.turns 8 x : Nat)) (by rw [tab_get _ _ hx, if_pos hx])
    exact this
  have hgb : g < w1.heap.size := lt_of_block hg1
  have F : Hid (∀ j x, (nums s)[j]? = some x → w1.cell? ⟨w.heap.size, j, none⟩ = some (.int .u8 (x : Nat))) := hcell
  have T : Hid (∀ x, x < 256 → w1.cell? ⟨g, x, none⟩ = some (.int .u32 (Crc.turns 8 x : Nat))) := htab
  have U : Hid (Turned (fun _ => False) w w1) := ht
  have C : Hid (c < 4294967296) := hc
  have W : Hid (s.size ≤ 4611686018427387904) := hs
  clear hg hg1 hcell htab ht hc hs
  generalize w.heap.size = n at *
  go_enter Try.func78, Try.ntmps78
  go_wp2
  go_loopg [1, 12] s.size (fun g x i wr => TakeRel w1 c s g x i wr)
  case atStart => exact ⟨0, Nat.zero_add _, rfl, rfl, rfl⟩
  case round =>
    obtain ⟨j, hjg, rfl, rfl, rfl⟩ := hrel
    by_cases hlt : j < s.size
    · obtain ⟨b, hb⟩ : ∃ b, (nums s)[j]? = some b := ⟨_, List.getElem?_eq_getElem (by rw [nums_length]; exact hlt)⟩
      have hb2 : b < 256 := nums_lt s b (List.mem_of_getElem? hb)
      have hl := F.out j b hb
      have hfn := feed_next c _ j b hb
      have hf := Crc.feed_lt c ((nums s).take j) C.out fun x hx => nums_lt s x (List.mem_of_mem_take hx)
      rw [Crc.step_table _ _ hb2] at hfn
      have N : Hid (Crc.feed c ((nums s).take (j + 1)) = _) := hfn
      clear hfn hb
      generalize Crc.feed c ((nums s).take j) = f at *
      have hx : bits .xor .u8 ((f : Int) % 256) (b : Int) = (((f % 256) ^^^ b : Nat) : Int) := by
        have := u8_xor_nat (f % 256) b (by omega) hb2
        simpa using this
      have hx2 : (f % 256) ^^^ b < 256 := Nat.xor_lt_two_pow (n := 8) (by omega) hb2
      generalize (f % 256) ^^^ b = x at *
      have hl2 := T.out x hx2
      have hy : Crc.turns 8 x < 4294967296 := Crc.turns_lt 8 x (by omega)
      generalize Crc.turns 8 x = y at *
      have hz : bits .xor .u32 (y : Int) ((f : Int) / 256) = ((y ^^^ (f / 256) : Nat) : Int) := by
        have := u32_xor_nat y (f / 256) hy (by omega)
        simpa using this
      have hw : wrap64 ((j : Int) + 1) = ((j + 1 : Nat) : Int) := by have := W.out; simp [wrap64]; omega
      go_wp2
      go_roundg (gk - 1)
      case measure => omega
      case rel => exact ⟨j + 1, by omega, by rw [hw], by rw [N.out], rfl⟩
    · have he : (nums s).take j = nums s := List.take_of_length_le (by rw [nums_length]; omega)
      rw [he]
      go_wp2
      go_ret
      exact ⟨rfl, U.out⟩
end Go.Proofs.Ytfeljngmidhajaa
