/- The writer above a bound; texts put together. -/
import Derived.Test.YtfeljngmidhajaaDoorPackX
namespace Go.Mine
theorem Sl.bound {w : World} {S : Nat → Prop} {e : TypeId} {size : Nat} {v : Value} {xs : List Value} {n : Nat} (h : Sl w S e size v xs n) : Sl w (fun b => S b ∧ b < w.heap.size) e size v xs n := by
  refine ⟨h.1, ?_⟩
  rcases h.2 with h | ⟨g, off, cap, cur, h1, h2, h3, h4⟩
  · exact .inl h
  · exact .inr ⟨g, off, cap, cur, h1, ⟨h2, lt_of_block h3⟩, h3, h4⟩
end Go.Mine
namespace Go.Proofs.YtfeljngmidhajaaDoor
open Go.RowKit Go.Mine

theorem more_up {w : World} {B : Nat} (hB : B ≤ w.heap.size) (b : Nat) (q : More (fun b => B ≤ b) w b) : B ≤ b := q.elim id fun q => Nat.le_trans hB q
theorem raw_up {B p : Nat} {bs : List UInt8} (s : ByteArray) (w : World) (h : Wr w (fun b => B ≤ b) p bs) (hB : B ≤ w.heap.size) (hL : bs.length + s.size ≤ 1099511627776) :
    Calls Tryd.prog 22 #[pt p, .string s] w fun e w' => e = .returned (.tuple #[]) ∧ Wr w' (fun b => B ≤ b) p (bs ++ s.data.toList) ∧ Turned (fun b => B ≤ b) w w' :=
  (raw_any s w h hL).mono fun _ _ q => ⟨q.1, q.2.1.widen (more_up hB), q.2.2⟩
theorem u8_up {B p : Nat} {bs : List UInt8} (v : Nat) (w : World) (h : Wr w (fun b => B ≤ b) p bs) (hB : B ≤ w.heap.size) (hv : v < 256) (hL : bs.length + 1 ≤ 1099511627776) :
    Calls Tryd.prog 23 #[pt p, .int .u8 v] w fun e w' => e = .returned (.tuple #[]) ∧ Wr w' (fun b => B ≤ b) p (bs ++ num v 1) ∧ Turned (fun b => B ≤ b) w w' :=
  (u8_any v w h hv hL).mono fun _ _ q => ⟨q.1, q.2.1.widen (more_up hB), q.2.2⟩
theorem u32_up {B p : Nat} {bs : List UInt8} (v : Nat) (w : World) (h : Wr w (fun b => B ≤ b) p bs) (hB : B ≤ w.heap.size) (hv : v < 4294967296) (hL : bs.length + 4 ≤ 1099511627776) :
    Calls Tryd.prog 24 #[pt p, .int .u32 v] w fun e w' => e = .returned (.tuple #[]) ∧ Wr w' (fun b => B ≤ b) p (bs ++ num v 4) ∧ Turned (fun b => B ≤ b) w w' :=
  (u32_any v w h hv hL).mono fun _ _ q => ⟨q.1, q.2.1.widen (more_up hB), q.2.2⟩

theorem wr_bound {w : World} {S : Nat → Prop} {p : Nat} {bs : List UInt8} (h : Wr w S p bs) : Wr w (fun b => S b ∧ b < w.heap.size) p bs := by
  obtain ⟨h1, v, R, h2, h3, h4, h5⟩ := h
  exact ⟨⟨h1, lt_of_block h2⟩, v, fun b => R b ∧ b < w.heap.size, h2, h3.bound, fun q => h4 q.1, fun b q => ⟨h5 b q.1, q.2⟩⟩

theorem sealed_bytes (bs : List UInt8) : sealed ⟨bs.toArray⟩ = ⟨(bs ++ num (Crc.sum (nums ⟨bs.toArray⟩)) 4).toArray⟩ := by
  unfold sealed
  apply ByteArray.ext
  simp
theorem ba_append (a b : List UInt8) : (⟨a.toArray⟩ : ByteArray) ++ ⟨b.toArray⟩ = ⟨(a ++ b).toArray⟩ := by
  apply ByteArray.ext
  simp
theorem ba_size (a : List UInt8) : (⟨a.toArray⟩ : ByteArray).size = a.length := by simp [ByteArray.size]
theorem add_ba (a b : List UInt8) (h : a.length + b.length ≤ 4611686018427387904) (W : World) : (Op.stringOp .add ⟨a.toArray⟩ ⟨b.toArray⟩).run Tryd.prog W = .ok (.string ⟨(a ++ b).toArray⟩) W := by
  rw [← ba_append]
  exact run_string_add_sum W _ _ (by rw [ba_size, ba_size]; omega)
end Go.Proofs.YtfeljngmidhajaaDoor
