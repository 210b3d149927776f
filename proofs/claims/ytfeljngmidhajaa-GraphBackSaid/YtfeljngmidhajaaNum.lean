/-
  The plain law of numbers as bytes, the greatest byte first: laid and read again.
  No condition.
-/
import GoSem.Core.Next
namespace Go.Mine

/-- the lowest n bytes of a number, the greatest first -/
def num (v : Nat) : Nat → List UInt8
  | 0 => []
  | n + 1 => UInt8.ofNat (v / 256 ^ n) :: num v n

/-- the number of bytes -/
def unnum (bs : List UInt8) : Nat := bs.foldl (fun v b => v * 256 + b.toNat) 0

theorem num_length (v n : Nat) : (num v n).length = n := by
  induction n with
  | zero => rfl
  | succ n ih => simp [num, ih]

theorem num_getElem (v : Nat) : ∀ (n i : Nat) (h : i < (num v n).length), (num v n)[i] = UInt8.ofNat (v / 256 ^ (n - 1 - i))
  | 0, i, h => by simp [num] at h
  | n + 1, 0, h => by simp [num]
  | n + 1, i + 1, h => by
    simp only [num, List.getElem_cons_succ]
    rw [num_getElem v n i]
    congr 3
    omega

theorem foldl_unnum (bs : List UInt8) (v : Nat) : bs.foldl (fun v b => v * 256 + b.toNat) v = v * 256 ^ bs.length + unnum bs := by
  induction bs generalizing v with
  | nil => simp [unnum]
  | cons b bs ih =>
    unfold unnum
    rw [List.foldl_cons, List.foldl_cons, ih, ih, List.length_cons, Nat.pow_succ]
    simp only [Nat.zero_mul, Nat.zero_add, Nat.add_mul]
    rw [Nat.mul_assoc, Nat.mul_comm 256, Nat.add_assoc]

theorem unnum_cons (b : UInt8) (bs : List UInt8) : unnum (b :: bs) = b.toNat * 256 ^ bs.length + unnum bs := by
  show List.foldl _ (0 * 256 + b.toNat) bs = _
  rw [foldl_unnum]; simp

theorem unnum_append (a b : List UInt8) : unnum (a ++ b) = unnum a * 256 ^ b.length + unnum b := by
  unfold unnum
  rw [List.foldl_append, foldl_unnum]
  rfl

theorem unnum_lt (bs : List UInt8) : unnum bs < 256 ^ bs.length := by
  induction bs with
  | nil => simp [unnum]
  | cons b bs ih =>
    rw [unnum_cons, List.length_cons, Nat.pow_succ]
    have hb := b.toNat_lt
    have : b.toNat * 256 ^ bs.length ≤ 255 * 256 ^ bs.length := Nat.mul_le_mul_right _ (by omega)
    omega

theorem unnum_num (v n : Nat) : unnum (num v n) = v % 256 ^ n := by
  induction n with
  | zero => simp [num, unnum, Nat.mod_one]
  | succ n ih =>
    rw [num, unnum_cons, ih, num_length]
    have : (UInt8.ofNat (v / 256 ^ n)).toNat = v / 256 ^ n % 256 := by simp
    rw [this, Nat.pow_succ, Nat.mod_mul, Nat.mul_comm (256 ^ n), Nat.add_comm]

theorem num_unnum (bs : List UInt8) : num (unnum bs) bs.length = bs := by
  induction bs with
  | nil => rfl
  | cons b bs ih =>
    have hp : 0 < 256 ^ bs.length := Nat.pow_pos (by decide)
    have hlt := unnum_lt bs
    rw [List.length_cons, num, unnum_cons]
    have h1 : (b.toNat * 256 ^ bs.length + unnum bs) / 256 ^ bs.length = b.toNat := by
      rw [Nat.add_comm, Nat.add_mul_div_right _ _ hp, Nat.div_eq_of_lt hlt, Nat.zero_add]
    have h2 : ∀ k, k ≤ bs.length → num (b.toNat * 256 ^ bs.length + unnum bs) k = num (unnum bs) k := by
      intro k hk
      induction k with
      | zero => rfl
      | succ k ih2 =>
        rw [num, num, ih2 (by omega)]
        congr 1
        apply UInt8.toNat_inj.1
        simp only [UInt8.toNat_ofNat']
        have hsplit : b.toNat * 256 ^ bs.length = (b.toNat * 256 ^ (bs.length - (k + 1)) * 256) * 256 ^ k := by
          have hlen : bs.length = (bs.length - (k + 1)) + 1 + k := by omega
          conv => lhs; rw [hlen, Nat.pow_add, Nat.pow_succ]
          rw [Nat.mul_assoc, Nat.mul_assoc, Nat.mul_assoc]
        rw [hsplit, Nat.add_comm, Nat.add_mul_div_right _ _ (Nat.pow_pos (by decide)), Nat.add_mul_mod_self_right]
    rw [h1, h2 _ (Nat.le_refl _), ih]
    simp

theorem num_inj {a b n : Nat} (h : num a n = num b n) : a % 256 ^ n = b % 256 ^ n := by rw [← unnum_num, ← unnum_num, h]

end Go.Mine
