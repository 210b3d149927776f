/- The program's sum of one text. -/
import Derived.Test.YtfeljngmidhajaaSum3
namespace Go.Proofs.Ytfeljngmidhajaa
open Go.RowKit Go.Mine

def SumRel (w1 : World) (s : ByteArray) (g : Nat) (x i : Value) (wr : World) : Prop :=
  (g = 1 ∧ i = .int .i64 0 ∧ x = .int .u32 4294967295 ∧ wr = w1) ∨ (g = 0 ∧ i = .int .i64 1 ∧ x = .int .u32 (Crc.feed 4294967295 (nums s) : Nat) ∧ Turned (fun _ => False) w1 wr)

theorem crcsum_eq (s : ByteArray) : Crc.sum (nums s) = 4294967295 - Crc.feed 4294967295 (nums s) := rfl
theorem feed_nums_lt (c : Nat) (s : ByteArray) (h : c < 4294967296) : Crc.feed c (nums s) < 4294967296 := Crc.feed_lt c _ h (nums_lt s)

theorem not_u32 (f : Nat) (h : f < 4294967296) : bits .xor .u32 IntKind.u32.max (f : Int) = ((4294967295 - f : Nat) : Int) := by
  have h1 : IntKind.u32.max = ((4294967295 : Nat) : Int) := by decide
  rw [h1, u32_xor_nat _ _ (by decide) h]
  have h2 : ((4294967295 : Nat) ^^^ f) = 4294967295 - f := by
    have := BitVec.toNat_not (x := BitVec.ofNat 32 f)
    rw [← BitVec.allOnes_xor] at this
    rw [BitVec.toNat_xor, BitVec.toNat_allOnes, BitVec.toNat_ofNat, Nat.mod_eq_of_lt (by omega)] at this
    simpa using this
  rw [h2]

theorem lt_of_cell {w : World} {b o : Nat} {v : Value} (h : w.cell? ⟨b, o, none⟩ = some v) : b < w.heap.size := by
  simp only [World.cell?] at h
  split at h
  · rename_i h2; exact lt_of_block h2
  · simp at h

set_option maxRecDepth 100000 in
set_option maxHeartbeats 1000000 in
theorem sum_one (b off cap : Nat) (s : ByteArray) (w : World) (hb : w.cell? ⟨b, off, none⟩ = some (.string s)) (hbl : b < w.heap.size) (hs : s.size ≤ 4611686018427387904) :
    Calls Try.prog 47 #[.slice (some ⟨b, off, none⟩) 1 cap] w fun e w' => e = .returned (.int .u32 (Crc.sum (nums s) : Nat)) ∧ Turned (fun _ => False) w w' := by
  have z107 := zero107
  have W : Hid (s.size ≤ 4611686018427387904) := hs
  have hr := rows_any w
  have hu : Hid ((Try.prog.info? 107).map (·.size) = some (tab 256).size ∧ (tab 0).size = (tab 256).size ∧ (tab 256).all (·.oneCell') = true) := ⟨by rw [tab_size]; exact size107, by rw [tab_size, tab_size], tab_one 256⟩
  rw [crcsum_eq]
  have hF : Hid (Crc.feed 4294967295 (nums s) < 4294967296) := feed_nums_lt _ s (by decide)
  have TK := fun (c g : Nat) (w : World) (hg : Blk w g (tab 256) 107) (hc : c < 4294967296) => take_any g c s w hg hc W.out
  have H : Hid (∀ (c g : Nat) (w : World) (hg : Blk w g (tab 256) 107) (hc : c < 4294967296), Calls Try.prog 78 #[pt g, .int .u32 c, .string s] w fun e w' => e = .returned (.int .u32 (Crc.feed c (nums s) : Nat)) ∧ Turned (fun _ => False) w w') := TK
  clear hs TK
  obtain ⟨T0, hT0⟩ : ∃ T, T = tab 0 := ⟨_, rfl⟩
  obtain ⟨T1, hT1⟩ : ∃ T, T = tab 256 := ⟨_, rfl⟩
  rw [← hT0] at z107 hu
  rw [← hT1] at hr hu
  have X : Hid (T1 = tab 256) := hT1
  clear hT0 hT1
  go_enter Try.func47, Try.ntmps47
  go_wp2_with fail
  refine hr.mono ?_
  rintro e w1 ⟨rfl, ht1⟩
  clear hr
  rw [← World.cell?_of_block (w' := w1) (ht1.block b hbl (fun q => q))] at hb
  have hbl1 : b < w1.heap.size := Nat.lt_of_lt_of_le hbl ht1.size
  have U : Hid (Turned (fun _ => False) w w1) := ht1
  clear ht1 hbl
  have S := heap_alloc_last w1 (.cells T0 107)
  have S' : Hid ((w1.alloc (.cells T0 107)).heap[w1.heap.size]? = some (.cells T0 107 (0, 0))) := S
  clear S
  go_wp2_with (first
        | (refine wpList_store_row rfl 107 _ _ rfl w1.heap.size T1 T0 107 rfl rfl S'.out hu.out.1 hu.out.2.1 hu.out.2.2 ?_; intro w2 hw2 ht2 _))
  have hg2 : Blk w2 w1.heap.size (tab 256) 107 := by rw [← X.out]; exact hw2
  have ht2' : Turned (fun _ => False) w w2 := U.out.comp ((Turned.alloc (fun _ => False) w1 (.cells T0 107)).comp (T := (· = w1.heap.size)) ht2 fun i _ q => q.elim (fun q => q.elim) id) fun i hi q => q.elim id fun q => by have := U.out.size; omega
  have hb2 : w2.cell? ⟨b, off, none⟩ = some (.string s) := by
    rw [World.cell?_of_block (w := w1) ?_]
    · exact hb
    · rw [ht2.block b (by simp; omega) (by omega), (MapKept.heap_alloc w1 _).2 b hbl1]
  have hbl2 : b < w2.heap.size := lt_of_cell hb2
  have G : Hid (Blk w2 w1.heap.size (tab 256) 107) := hg2
  have V : Hid (Turned (fun _ => False) w w2) := ht2'
  clear hg2 ht2' hw2 ht2 hb hbl1 z107 S' hu U
  generalize w1.heap.size = g at *
  go_loopg [4, 10] 1 (fun g x i wr => SumRel w2 s g x i wr)
  case atStart => exact .inl ⟨rfl, rfl, rfl, rfl⟩
  case round =>
    rcases hrel with ⟨rfl, rfl, rfl, rfl⟩ | ⟨rfl, rfl, rfl, ht⟩
    · have hk := H.out 4294967295 g wr G.out (by decide)
      rw [show ((4294967295 : Nat) : Int) = 4294967295 from rfl] at hk
      have Y : Hid (SumRel wr s 0 (.int .u32 (Crc.feed 4294967295 (nums s) : Nat)) (.int .i64 1) = SumRel wr s 0 (.int .u32 (Crc.feed 4294967295 (nums s) : Nat)) (.int .i64 1)) := rfl
      clear hF
      go_wp2_with (go_at_call 78; (with_reducible refine hk.mono ?_); rintro e w' ⟨rfl, ht⟩)
      go_roundg 0
      case measure => omega
      case rel => exact .inr ⟨rfl, rfl, rfl, ht⟩
    · have hf := not_u32 _ hF.out
      have E : Hid (∀ x, x = Crc.feed 4294967295 (nums s) → ((4294967295 - x : Nat) : Int) = ((4294967295 - Crc.feed 4294967295 (nums s) : Nat) : Int)) := fun x hx => by rw [hx]
      have T : Hid (Turned (fun _ => False) w wr) := V.out.trans ht fun _ _ q => q
      clear ht V G
      go_wp2
      go_ret
      exact ⟨rfl, T.out⟩
end Go.Proofs.Ytfeljngmidhajaa
