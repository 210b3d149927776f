/- Writers beside one another: each has blocks of its own. -/
import Derived.Test.YtfeljngmidhajaaGw8
import Derived.Test.YtfeljngmidhajaaBuildW
namespace Go.Proofs.Ytfeljngmidhajaa
open Go.RowKit Go.Mine

def upd {α : Type} (f : Nat → α) (i : Nat) (x : α) : Nat → α := fun j => if j = i then x else f j
theorem upd_same {α : Type} (f : Nat → α) (i : Nat) (x : α) : upd f i x i = x := by simp [upd]
theorem upd_other {α : Type} (f : Nat → α) (i : Nat) (x : α) (j : Nat) (h : j ≠ i) : upd f i x j = f j := by simp [upd, h]

/-- n writers at p 0, p 1, .. that have laid f 0, f 1, ..; the blocks of K are none of theirs -/
def Wrs (w : World) (K : Nat → Prop) (n : Nat) (p : Nat → Nat) (f : Nat → List UInt8) : Prop :=
  ∃ own : Nat → Nat, (∀ b, K b → n ≤ own b ∧ b < w.heap.size) ∧ ∀ i, i < n → Wr w (fun b => own b = i ∧ b < w.heap.size) (p i) (f i)

theorem Wrs.none (w : World) (K : Nat → Prop) (hK : ∀ b, K b → b < w.heap.size) (p : Nat → Nat) (f : Nat → List UInt8) : Wrs w K 0 p f :=
  ⟨fun _ => 0, fun b q => ⟨Nat.zero_le _, hK b q⟩, fun i q => by omega⟩

theorem Wrs.step {w : World} {K : Nat → Prop} {n : Nat} {p : Nat → Nat} {f : Nat → List UInt8} (h : Wrs w K n p f) (i : Nat) (hi : i < n) :
    ∃ S : Nat → Prop, Wr w S (p i) (f i) ∧ (∀ b, S b → ¬ K b) ∧ ∀ w' bs', Wr w' (More S w) (p i) bs' → Turned S w w' → Wrs w' K n p (upd f i bs') ∧ Turned (fun b => ¬ K b) w w' := by
  obtain ⟨own, hK, hw⟩ := h
  have hS : ∀ b, own b = i ∧ b < w.heap.size → ¬ K b := fun b q k => by have := (hK b k).1; omega
  refine ⟨fun b => own b = i ∧ b < w.heap.size, hw i hi, hS, fun w' bs' h1 ht => ⟨⟨fun b => if b < w.heap.size then own b else i, fun b k => ?_, fun j hj => ?_⟩, ht.mono fun b _ q => hS b q⟩⟩
  · have hk := hK b k
    have := ht.size
    simp only [if_pos hk.2]
    exact ⟨hk.1, by omega⟩
  · by_cases hji : j = i
    · subst hji
      rw [upd_same]
      refine (wr_bound h1).widen fun b ⟨q, hb⟩ => ⟨?_, hb⟩
      by_cases hlt : b < w.heap.size
      · simp only [if_pos hlt]
        rcases q with q | q
        · exact q.1
        · omega
      · simp only [if_neg hlt]
    · rw [upd_other _ _ _ _ hji]
      refine ((hw j hj).turned ht fun b q z => hji (q.1.symm.trans z.1)).widen fun b q => ?_
      have := ht.size
      simp only [if_pos q.2]
      exact ⟨q.1, by omega⟩

/-- what is new is none of theirs -/
theorem Wrs.turned {w w' : World} {K : Nat → Prop} {n : Nat} {p : Nat → Nat} {f : Nat → List UInt8} (h : Wrs w K n p f) (ht : Turned (fun b => K b) w w') :
    Wrs w' (fun b => K b ∨ (w.heap.size ≤ b ∧ b < w'.heap.size)) n p f := by
  obtain ⟨own, hK, hw⟩ := h
  refine ⟨fun b => if b < w.heap.size then own b else n, fun b k => ?_, fun j hj => ?_⟩
  · rcases k with k | k
    · have hk := hK b k
      have := ht.size
      simp only [if_pos hk.2]
      exact ⟨hk.1, by omega⟩
    · simp only [if_neg (show ¬ b < w.heap.size by omega)]
      exact ⟨Nat.le_refl _, k.2⟩
  · refine ((hw j hj).turned ht fun b q z => by have := (hK b z).1; omega).widen fun b q => ?_
    have := ht.size
    simp only [if_pos q.2]
    exact ⟨q.1, by omega⟩
theorem Wrs.mono {w : World} {K K' : Nat → Prop} {n : Nat} {p : Nat → Nat} {f : Nat → List UInt8} (h : Wrs w K n p f) (hK : ∀ b, K' b → K b) : Wrs w K' n p f := by
  obtain ⟨own, h1, h2⟩ := h
  exact ⟨own, fun b q => h1 b (hK b q), h2⟩
theorem Wrs.congr {w : World} {K : Nat → Prop} {n : Nat} {p p' : Nat → Nat} {f f' : Nat → List UInt8} (h : Wrs w K n p f) (hp : ∀ i, i < n → p' i = p i) (hf : ∀ i, i < n → f' i = f i) : Wrs w K n p' f' := by
  obtain ⟨own, h1, h2⟩ := h
  exact ⟨own, h1, fun i hi => by rw [hp i hi, hf i hi]; exact h2 i hi⟩

theorem newWriter_ws {w : World} {K : Nat → Prop} {n : Nat} {p : Nat → Nat} {f : Nat → List UInt8} (h : Wrs w K n p f) :
    Calls Try.prog 43 #[] w fun e w' => e = .returned (pt w.heap.size) ∧ Wrs w' K (n + 1) (upd p n w.heap.size) (upd f n []) ∧ Turned (fun _ => False) w w' := by
  refine (newWriter_any w).mono fun e w' ⟨he, hw, ht, hz⟩ => ⟨he, ?_, ht⟩
  obtain ⟨own, hK, hws⟩ := h
  refine ⟨fun b => if b = w.heap.size then n else if own b < n then own b else n + 1, fun b k => ?_, fun j hj => ?_⟩
  · have hk := hK b k
    simp only [if_neg (show ¬ b = w.heap.size by omega), if_neg (show ¬ own b < n by omega)]
    exact ⟨Nat.le_refl _, by omega⟩
  · by_cases hjn : j = n
    · subst hjn
      rw [upd_same, upd_same]
      refine (wr_bound hw).widen fun b ⟨q, hb⟩ => ⟨?_, hb⟩
      simp only [if_pos (show b = w.heap.size by omega)]
    · rw [upd_other _ _ _ _ hjn, upd_other _ _ _ _ hjn]
      refine ((hws j (by omega)).turned ht fun b _ z => z).widen fun b q => ?_
      simp only [if_neg (show ¬ b = w.heap.size by omega), if_pos (show own b < n by omega)]
      exact ⟨q.1, by omega⟩

set_option maxRecDepth 100000 in
theorem u16_any {S : Nat → Prop} {p : Nat} {bs : List UInt8} (v : Nat) (w : World) (h : Wr w S p bs) (hv : v < 65536) (hL : bs.length + 2 ≤ 1099511627776) :
    Calls Try.prog 51 #[pt p, .int .u16 v] w fun e w' => e = .returned (.tuple #[]) ∧ Wr w' (More S w) p (bs ++ num v 2) ∧ Turned S w w' := by
  have hf : Calls Try.prog 76 #[pt p, .int .u64 v, .int .i64 2] w fun e w' => e = .returned (.tuple #[]) ∧ Wr w' (More S w) p (bs ++ num v 2) ∧ Turned S w w' := fixed_any v 2 w h (by omega) (by omega) hL
  have hm : ((v : Int) % 18446744073709551616) = v := by omega
  clear h hv hL
  go_enter Try.func51, Try.ntmps51
  go_wp2_with (go_at_call 76; (with_reducible refine hf.mono ?_); rintro e w2 ⟨rfl, hw, ht⟩)
  go_end0
  exact ⟨rfl, hw, ht⟩

set_option maxRecDepth 100000 in
theorem len_any {S : Nat → Prop} {p : Nat} {bs : List UInt8} (w : World) (h : Wr w S p bs) :
    Calls Try.prog 53 #[pt p] w fun e w' => e = .returned (.int .i64 (bs.length : Nat)) ∧ w = w' := by
  obtain ⟨hp, v, R, hb, hsl, hpR, hR⟩ := h
  have hc := cell_of hb 0 _ rfl
  have hlt := lt_of_block hb
  obtain ⟨a, cap, rfl, h1, h2⟩ := hsl.value
  clear hp hpR hR hb hsl h1 h2
  go_enter Try.func53, Try.ntmps53
  go_wp2
  go_ret
  exact ⟨rfl, rfl⟩

section
variable {w : World} {K : Nat → Prop} {n : Nat} {p : Nat → Nat} {f : Nat → List UInt8}
theorem u8_ws (h : Wrs w K n p f) (i v : Nat) (hi : i < n) (hv : v < 256) (hL : (f i).length + 1 ≤ 1099511627776) :
    Calls Try.prog 45 #[pt (p i), .int .u8 v] w fun e w' => e = .returned (.tuple #[]) ∧ Wrs w' K n p (upd f i (f i ++ num v 1)) ∧ Turned (fun b => ¬ K b) w w' := by
  obtain ⟨S, h1, h2, h3⟩ := h.step i hi
  exact (u8_any v w h1 hv hL).mono fun e w' ⟨he, hw, ht⟩ => ⟨he, h3 w' _ hw ht⟩
theorem u16_ws (h : Wrs w K n p f) (i v : Nat) (hi : i < n) (hv : v < 65536) (hL : (f i).length + 2 ≤ 1099511627776) :
    Calls Try.prog 51 #[pt (p i), .int .u16 v] w fun e w' => e = .returned (.tuple #[]) ∧ Wrs w' K n p (upd f i (f i ++ num v 2)) ∧ Turned (fun b => ¬ K b) w w' := by
  obtain ⟨S, h1, h2, h3⟩ := h.step i hi
  exact (u16_any v w h1 hv hL).mono fun e w' ⟨he, hw, ht⟩ => ⟨he, h3 w' _ hw ht⟩
theorem u32_ws (h : Wrs w K n p f) (i v : Nat) (hi : i < n) (hv : v < 4294967296) (hL : (f i).length + 4 ≤ 1099511627776) :
    Calls Try.prog 46 #[pt (p i), .int .u32 v] w fun e w' => e = .returned (.tuple #[]) ∧ Wrs w' K n p (upd f i (f i ++ num v 4)) ∧ Turned (fun b => ¬ K b) w w' := by
  obtain ⟨S, h1, h2, h3⟩ := h.step i hi
  exact (u32_any v w h1 hv hL).mono fun e w' ⟨he, hw, ht⟩ => ⟨he, h3 w' _ hw ht⟩
theorem raw_ws (h : Wrs w K n p f) (i : Nat) (s : ByteArray) (hi : i < n) (hL : (f i).length + s.size ≤ 1099511627776) :
    Calls Try.prog 44 #[pt (p i), .string s] w fun e w' => e = .returned (.tuple #[]) ∧ Wrs w' K n p (upd f i (f i ++ s.data.toList)) ∧ Turned (fun b => ¬ K b) w w' := by
  obtain ⟨S, h1, h2, h3⟩ := h.step i hi
  exact (raw_any s w h1 hL).mono fun e w' ⟨he, hw, ht⟩ => ⟨he, h3 w' _ hw ht⟩
theorem len_ws (h : Wrs w K n p f) (i : Nat) (hi : i < n) : Calls Try.prog 53 #[pt (p i)] w fun e w' => e = .returned (.int .i64 ((f i).length : Nat)) ∧ w = w' := by
  obtain ⟨S, h1, -, -⟩ := h.step i hi
  exact len_any w h1
theorem bytes_ws (h : Wrs w K n p f) (i : Nat) (hi : i < n) : Calls Try.prog 48 #[pt (p i)] w fun e w' => e = .returned (.string ⟨(f i).toArray⟩) ∧ w = w' := by
  obtain ⟨S, h1, -, -⟩ := h.step i hi
  exact bytes_any w h1
end
end Go.Proofs.Ytfeljngmidhajaa
