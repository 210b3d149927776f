/- Packed. -/
import GoSem.Core.Next
import Derived.Shelf.SlLaysW
import Derived.Ground.SlmcProg
import Derived.Test.YtofcogekgcgjhaaGreatDoorProg
set_option linter.unusedVariables false
set_option linter.unusedSimpArgs false
set_option maxRecDepth 100000
namespace Go.Mine.Crc
def turn (c : Nat) : Nat := if c % 2 = 1 then (c / 2) ^^^ 3988292384 else c / 2
def turns : Nat → Nat → Nat
 | 0, c => c
 | k + 1, c => turns k (turn c)
theorem turns_succ (k c : Nat) : turns (k + 1) c = turn (turns k c) := by
 induction k generalizing c with
 | zero => rfl
 | succ k ih => exact ih (turn c)
theorem turn_xor (a b : Nat) : turn (a ^^^ b) = turn a ^^^ turn b := by
 have h2 : (a ^^^ b) / 2 = a / 2 ^^^ b / 2 := Nat.xor_div_two
 have hm : (a ^^^ b) % 2 = (a % 2 + b % 2) % 2 := by
  have := Nat.xor_mod_two_eq_one (a := a) (b := b)
  omega
 unfold turn
 rw [h2, hm]
 rcases Nat.mod_two_eq_zero_or_one a with ha | ha <;> rcases Nat.mod_two_eq_zero_or_one b with hb | hb <;> simp only [ha, hb] <;> simp
 ·rw [Nat.xor_assoc]
 ·rw [Nat.xor_assoc, Nat.xor_assoc, Nat.xor_comm (b / 2)]
 ·rw [Nat.xor_assoc, Nat.xor_comm 3988292384, Nat.xor_assoc, Nat.xor_self, Nat.xor_zero]
theorem turns_xor (k a b : Nat) : turns k (a ^^^ b) = turns k a ^^^ turns k b := by
 induction k generalizing a b with
 | zero => rfl
 | succ k ih => rw [turns, turn_xor, ih]; rfl
theorem turn_double (x : Nat) : turn (2 * x) = x := by
 unfold turn
 have : 2 * x % 2 = 0 := by omega
 simp [this]
theorem turns_shift (k x : Nat) : turns k (2 ^ k * x) = x := by
 induction k generalizing x with
 | zero => simp [turns]
 | succ k ih =>
  have : 2 ^ (k + 1) * x = 2 * (2 ^ k * x) := by rw [Nat.pow_succ]; rw [Nat.mul_comm (2 ^ k) 2, Nat.mul_assoc]
  rw [turns, this, turn_double, ih]
theorem split8 (c : Nat) : c = (c % 256) ^^^ (2 ^ 8 * (c / 256)) := by
 apply Nat.eq_of_testBit_eq
 intro i
 rw [Nat.testBit_xor, show (256 : Nat) = 2 ^ 8 from rfl, Nat.testBit_mod_two_pow, Nat.testBit_two_pow_mul, Nat.testBit_div_two_pow]
 by_cases h : i < 8
 ·have h' : ¬ 8 ≤ i := by omega
  simp [h, h']
 ·have h' : 8 ≤ i := by omega
  simp [h, h', Nat.sub_add_cancel h']
theorem turns8 (c : Nat) : turns 8 c = turns 8 (c % 256) ^^^ (c / 256) := by
 conv => lhs; rw [split8 c]
 rw [turns_xor, turns_shift]
theorem turn_lt (c : Nat) (h : c < 2 ^ 32) : turn c < 2 ^ 32 := by
 unfold turn
 split
 ·exact Nat.xor_lt_two_pow (by omega) (by decide)
 ·omega
theorem turns_lt (k c : Nat) (h : c < 2 ^ 32) : turns k c < 2 ^ 32 := by
 induction k generalizing c with
 | zero => exact h
 | succ k ih => exact ih _ (turn_lt c h)
def feed : Nat → List Nat → Nat
 | c, [] => c
 | c, b :: bs => feed (turns 8 (c ^^^ b)) bs
theorem feed_append (c : Nat) (a b : List Nat) : feed c (a ++ b) = feed (feed c a) b := by
 induction a generalizing c with
 | nil => rfl
 | cons x a ih => exact ih _
theorem feed_lt (c : Nat) (bs : List Nat) (hc : c < 2 ^ 32) (hb : ∀ b ∈ bs, b < 256) : feed c bs < 2 ^ 32 := by
 induction bs generalizing c with
 | nil => exact hc
 | cons b bs ih =>
  refine ih _ (turns_lt 8 _ (Nat.xor_lt_two_pow hc ?_)) (fun x hx => hb x (List.mem_cons_of_mem _ hx))
  have := hb b List.mem_cons_self
  omega
theorem step_table (c b : Nat) (hb : b < 256) : turns 8 (c ^^^ b) = turns 8 ((c % 256) ^^^ b) ^^^ (c / 256) := by
 rw [turns8]
 have h1 : (c ^^^ b) % 256 = (c % 256) ^^^ b := by
  rw [show (256 : Nat) = 2 ^ 8 from rfl, Nat.xor_mod_two_pow, Nat.mod_eq_of_lt (a := b) (by omega)]
 have h2 : (c ^^^ b) / 256 = c / 256 := by
  rw [show (256 : Nat) = 2 ^ 8 from rfl, Nat.xor_div_two_pow, Nat.div_eq_of_lt (a := b) (by omega), Nat.xor_zero]
 rw [h1, h2]
def sum (bs : List Nat) : Nat := 4294967295 - feed 4294967295 bs
end Go.Mine.Crc
namespace Go.Mine
def num (v : Nat) : Nat → List UInt8
 | 0 => []
 | n + 1 => UInt8.ofNat (v / 256 ^ n) :: num v n
def unnum (bs : List UInt8) : Nat := bs.foldl (fun v b => v * 256 + b.toNat) 0
theorem num_length (v n : Nat) : (num v n).length = n := by
 induction n with
 | zero => rfl
 | succ n ih => simp [num, ih]
theorem num_getElem (v : Nat) : ∀ (n i : Nat) (h : i < (num v n).length), (num v n)[i] = UInt8.ofNat (v / 256 ^ (n - 1 - i))
 | 0, i, h => by simp [num] at h
 | n + 1, 0, h => by simp [num]
 | n + 1, i + 1, h => by
  simp only [num, List.getElem_cons_succ]
  rw [num_getElem v n i]
  congr 3
  omega
theorem foldl_unnum (bs : List UInt8) (v : Nat) : bs.foldl (fun v b => v * 256 + b.toNat) v = v * 256 ^ bs.length + unnum bs := by
 induction bs generalizing v with
 | nil => simp [unnum]
 | cons b bs ih =>
  unfold unnum
  rw [List.foldl_cons, List.foldl_cons, ih, ih, List.length_cons, Nat.pow_succ]
  simp only [Nat.zero_mul, Nat.zero_add, Nat.add_mul]
  rw [Nat.mul_assoc, Nat.mul_comm 256, Nat.add_assoc]
theorem unnum_cons (b : UInt8) (bs : List UInt8) : unnum (b :: bs) = b.toNat * 256 ^ bs.length + unnum bs := by
 show List.foldl _ (0 * 256 + b.toNat) bs = _
 rw [foldl_unnum]; simp
theorem unnum_lt (bs : List UInt8) : unnum bs < 256 ^ bs.length := by
 induction bs with
 | nil => simp [unnum]
 | cons b bs ih =>
  rw [unnum_cons, List.length_cons, Nat.pow_succ]
  have hb := b.toNat_lt
  have : b.toNat * 256 ^ bs.length ≤ 255 * 256 ^ bs.length := Nat.mul_le_mul_right _ (by omega)
  omega
end Go.Mine
namespace Go.Proofs
open Go.Shelf
def Tryz.mclone_ren : Go.Shelf.Ren := ⟨fun | 5 => 91 | 7 => 176 | n => n, fun | 23 => 145 | 25 => 9 | 3 => 153 | 4 => 4 | 20 => 20 | n => n, fun | n => n⟩
theorem Tryz.mclone : Go.Proofs.SlLaysW.n5 Tryz.prog Tryz.mclone_ren := {
 mixed := by kernel_rfl
 f5 := ⟨Tryz.f91.name, by decide, Tryz.func91.trans (congrArg some (by kernel_rfl))⟩
 f7 := Tryz.func176.trans (congrArg some (by kernel_rfl))
 t4 := Tryz.underlying4
 a4 := Tryz.isAgg4
 z4 := Tryz.sizeOf4
 v4 := Tryz.zeroValue4
 t20 := Tryz.underlying20
 a20 := Tryz.isAgg20
 z20 := Tryz.sizeOf20
 v20 := Tryz.zeroValue20
 t23 := Tryz.underlying145
 a23 := Tryz.isAgg145
 z23 := Tryz.sizeOf145
 v23 := Tryz.zeroValue145 }
end Go.Proofs
