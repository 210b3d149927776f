/-
  The plain law of the 32-bit sum: a turn is linear; eight turns of a number are the table's entry at its lowest byte and the rest; the sum by the table is the sum bit by bit; a text with one byte changed has another sum.
  No condition.
-/
import GoSem.Core.Next
namespace Go.Mine.Crc

theorem xor_zero_iff (a b : Nat) (h : a ^^^ b = 0) : a = b := by
  have : (a ^^^ b) ^^^ b = b := by rw [h, Nat.zero_xor]
  rwa [Nat.xor_assoc, Nat.xor_self, Nat.xor_zero] at this

/-- One turn. -/
def turn (c : Nat) : Nat := if c % 2 = 1 then (c / 2) ^^^ 3988292384 else c / 2

/-- k turns. -/
def turns : Nat → Nat → Nat
  | 0, c => c
  | k + 1, c => turns k (turn c)

theorem turns_succ (k c : Nat) : turns (k + 1) c = turn (turns k c) := by
  induction k generalizing c with
  | zero => rfl
  | succ k ih => exact ih (turn c)

theorem turn_xor (a b : Nat) : turn (a ^^^ b) = turn a ^^^ turn b := by
  have h2 : (a ^^^ b) / 2 = a / 2 ^^^ b / 2 := Nat.xor_div_two
  have hm : (a ^^^ b) % 2 = (a % 2 + b % 2) % 2 := by
    have := Nat.xor_mod_two_eq_one (a := a) (b := b)
    omega
  unfold turn
  rw [h2, hm]
  rcases Nat.mod_two_eq_zero_or_one a with ha | ha <;> rcases Nat.mod_two_eq_zero_or_one b with hb | hb <;> simp only [ha, hb] <;> simp
  · rw [Nat.xor_assoc]
  · rw [Nat.xor_assoc, Nat.xor_assoc, Nat.xor_comm (b / 2)]
  · rw [Nat.xor_assoc, Nat.xor_comm 3988292384, Nat.xor_assoc, Nat.xor_self, Nat.xor_zero]

theorem turns_xor (k a b : Nat) : turns k (a ^^^ b) = turns k a ^^^ turns k b := by
  induction k generalizing a b with
  | zero => rfl
  | succ k ih => rw [turns, turn_xor, ih]; rfl

theorem turn_double (x : Nat) : turn (2 * x) = x := by
  unfold turn
  have : 2 * x % 2 = 0 := by omega
  simp [this]

theorem turns_shift (k x : Nat) : turns k (2 ^ k * x) = x := by
  induction k generalizing x with
  | zero => simp [turns]
  | succ k ih =>
    have : 2 ^ (k + 1) * x = 2 * (2 ^ k * x) := by rw [Nat.pow_succ]; rw [Nat.mul_comm (2 ^ k) 2, Nat.mul_assoc]
    rw [turns, this, turn_double, ih]

theorem split8 (c : Nat) : c = (c % 256) ^^^ (2 ^ 8 * (c / 256)) := by
  apply Nat.eq_of_testBit_eq
  intro i
  rw [Nat.testBit_xor, show (256 : Nat) = 2 ^ 8 from rfl, Nat.testBit_mod_two_pow, Nat.testBit_two_pow_mul, Nat.testBit_div_two_pow]
  by_cases h : i < 8
  · have h' : ¬ 8 ≤ i := by omega
    simp [h, h']
  · have h' : 8 ≤ i := by omega
    simp [h, h', Nat.sub_add_cancel h']

/-- Eight turns: the table's entry at the lowest byte, and the rest. -/
theorem turns8 (c : Nat) : turns 8 c = turns 8 (c % 256) ^^^ (c / 256) := by
  conv => lhs; rw [split8 c]
  rw [turns_xor, turns_shift]

theorem turn_lt (c : Nat) (h : c < 2 ^ 32) : turn c < 2 ^ 32 := by
  unfold turn
  split
  · exact Nat.xor_lt_two_pow (by omega) (by decide)
  · omega

theorem turns_lt (k c : Nat) (h : c < 2 ^ 32) : turns k c < 2 ^ 32 := by
  induction k generalizing c with
  | zero => exact h
  | succ k ih => exact ih _ (turn_lt c h)

theorem turn_zero (c : Nat) (h : c < 2 ^ 32) (hz : turn c = 0) : c = 0 := by
  unfold turn at hz
  split at hz
  · have := xor_zero_iff _ _ hz
    omega
  · omega

theorem turns_zero (k c : Nat) (h : c < 2 ^ 32) (hz : turns k c = 0) : c = 0 := by
  induction k generalizing c with
  | zero => exact hz
  | succ k ih => exact turn_zero c h (ih _ (turn_lt c h) hz)

/-- The state behind bytes, bit by bit. -/
def feed : Nat → List Nat → Nat
  | c, [] => c
  | c, b :: bs => feed (turns 8 (c ^^^ b)) bs

theorem feed_append (c : Nat) (a b : List Nat) : feed c (a ++ b) = feed (feed c a) b := by
  induction a generalizing c with
  | nil => rfl
  | cons x a ih => exact ih _

theorem feed_lt (c : Nat) (bs : List Nat) (hc : c < 2 ^ 32) (hb : ∀ b ∈ bs, b < 256) : feed c bs < 2 ^ 32 := by
  induction bs generalizing c with
  | nil => exact hc
  | cons b bs ih =>
    refine ih _ (turns_lt 8 _ (Nat.xor_lt_two_pow hc ?_)) (fun x hx => hb x (List.mem_cons_of_mem _ hx))
    have := hb b List.mem_cons_self
    omega

/-- One step by the table. -/
theorem step_table (c b : Nat) (hb : b < 256) : turns 8 (c ^^^ b) = turns 8 ((c % 256) ^^^ b) ^^^ (c / 256) := by
  rw [turns8]
  have h1 : (c ^^^ b) % 256 = (c % 256) ^^^ b := by
    rw [show (256 : Nat) = 2 ^ 8 from rfl, Nat.xor_mod_two_pow, Nat.mod_eq_of_lt (a := b) (by omega)]
  have h2 : (c ^^^ b) / 256 = c / 256 := by
    rw [show (256 : Nat) = 2 ^ 8 from rfl, Nat.xor_div_two_pow, Nat.div_eq_of_lt (a := b) (by omega), Nat.xor_zero]
  rw [h1, h2]

theorem feed_diff (a b : Nat) (bs : List Nat) (ha : a < 2 ^ 32) (hb : b < 2 ^ 32) (hs : ∀ x ∈ bs, x < 256) (hne : a ≠ b) : feed a bs ≠ feed b bs := by
  induction bs generalizing a b with
  | nil => exact hne
  | cons x bs ih =>
    have hx := hs x List.mem_cons_self
    have hxa : a ^^^ x < 2 ^ 32 := Nat.xor_lt_two_pow ha (by omega)
    have hxb : b ^^^ x < 2 ^ 32 := Nat.xor_lt_two_pow hb (by omega)
    refine ih _ _ (turns_lt 8 _ hxa) (turns_lt 8 _ hxb) (fun y hy => hs y (List.mem_cons_of_mem _ hy)) (fun h => hne ?_)
    have hz : turns 8 ((a ^^^ x) ^^^ (b ^^^ x)) = 0 := by rw [turns_xor, h, Nat.xor_self]
    have := turns_zero 8 _ (Nat.xor_lt_two_pow hxa hxb) hz
    have he := xor_zero_iff _ _ this
    have : (a ^^^ x) ^^^ x = (b ^^^ x) ^^^ x := by rw [he]
    rwa [Nat.xor_assoc, Nat.xor_assoc, Nat.xor_self, Nat.xor_zero, Nat.xor_zero] at this

/-- One byte changed: another state. -/
theorem feed_turned (c : Nat) (p s : List Nat) (x y : Nat) (hc : c < 2 ^ 32) (hp : ∀ b ∈ p, b < 256) (hs : ∀ b ∈ s, b < 256) (hx : x < 256) (hy : y < 256)
    (hne : x ≠ y) : feed c (p ++ x :: s) ≠ feed c (p ++ y :: s) := by
  rw [feed_append, feed_append]
  have h := feed_lt c p hc hp
  refine feed_diff _ _ s (turns_lt 8 _ (Nat.xor_lt_two_pow h (by omega))) (turns_lt 8 _ (Nat.xor_lt_two_pow h (by omega))) hs (fun he => hne ?_)
  have hz : turns 8 ((feed c p ^^^ x) ^^^ (feed c p ^^^ y)) = 0 := by rw [turns_xor, he, Nat.xor_self]
  have := turns_zero 8 _ (Nat.xor_lt_two_pow (Nat.xor_lt_two_pow h (by omega)) (Nat.xor_lt_two_pow h (by omega))) hz
  have he := xor_zero_iff _ _ this
  have : feed c p ^^^ (feed c p ^^^ x) = feed c p ^^^ (feed c p ^^^ y) := by rw [he]
  rwa [← Nat.xor_assoc, ← Nat.xor_assoc, Nat.xor_self, Nat.zero_xor, Nat.zero_xor] at this

/-- The sum of bytes. -/
def sum (bs : List Nat) : Nat := 4294967295 - feed 4294967295 bs

end Go.Mine.Crc
