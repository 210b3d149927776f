/- The walks of the writer. -/
import Derived.Test.YtfeljngmidhajaaPack
import Derived.Deep.RegionLaw
namespace Go.Proofs.Ytfeljngmidhajaa
open Go.RowKit Go.Mine

theorem byteCells_eq (s : ByteArray) : byteCells s = bcells s.data.toList := rfl

set_option maxRecDepth 100000 in
set_option maxHeartbeats 1000000 in
theorem raw_any {S : Nat → Prop} {p : Nat} {bs : List UInt8} (s : ByteArray) (w : World) (h : Wr w S p bs) (hL : bs.length + s.size ≤ 1099511627776) :
    Calls Try.prog 44 #[pt p, .string s] w fun e w' => e = .returned (.tuple #[]) ∧ Wr w' (More S w) p (bs ++ s.data.toList) ∧ Turned S w w' := by
  obtain ⟨hp, v, R, hb, hsl, hpR, hR⟩ := h
  have hc := cell_of hb 0 _ rfl
  have hfr := free_of hb 0
  have hlt := lt_of_block hb
  have hsz : s.data.toList.length = s.size := by rw [Array.length_toList]; rfl
  have h1 : bs.length + s.size ≤ maxLen := by simp [maxLen]; omega
  have h2 : (bs.length + s.size) * 1 ≤ 140737488355328 := by omega
  have X : Hid (S p ∧ (∀ b, R b → S b) ∧ ¬ R p ∧ Blk w p #[v] 104) := ⟨hp, hR, hpR, hb⟩
  have H1 : Hid (bs.length + s.size ≤ maxLen) := h1
  have H2 : Hid ((bs.length + s.size) * 1 ≤ 140737488355328) := h2
  have HS : Hid (Sl w R 5 1 v (bcells bs) bs.length) := hsl
  clear hp hR hpR hb h1 h2 hsl hL
  obtain ⟨a, cap, hv, -, -⟩ := HS.out.value
  have V : Hid (v = .slice a bs.length cap) := hv
  clear hv
  go_enter Try.func44, Try.ntmps44
  go_wp2_with (at_builtin; refine wpList_append rfl _ _ 51 9 rfl HS.out Try.underlying51 info5 rfl (by decide) rfl (.string s) rfl (Src.ofString w Try.underlying9 s) H1.out H2.out ?_; intro v' w1 hsl1 ht1; obtain ⟨a2, cap2, hv2, -, -⟩ := hsl1.value; subst hv2; have hb1 : Blk w1 p #[v] 104 := X.out.2.2.2.turned ht1 X.out.2.2.1; have hc1 := cell_of hb1 0 _ rfl; have hf1 := free_of hb1 0)
  go_end0
  have t2 : Turned (· = p) w1 (w1.setCell ⟨p, 0, none⟩ (.slice a2 (bs.length + s.size) cap2)) := Turned.setCell (S := (· = p)) (p := ⟨p, 0, none⟩) rfl _
  have hb2 : Blk (w1.setCell ⟨p, 0, none⟩ (.slice a2 (bs.length + s.size) cap2)) p #[.slice a2 (bs.length + s.size) cap2] 104 := Go.Mine.heap_setCell_same hb1 _
  rw [byteCells_eq, ← hsz] at hsl1
  have := Wr.put X.out.1 X.out.2.1 X.out.2.2.1 hlt hsl1 (ht1.comp t2 fun i _ q => q.elim (X.out.2.1 i) fun q => q ▸ X.out.1) t2 hb2
  exact ⟨rfl, this⟩

theorem shr_any (P : Program) (v k : Nat) (hk : k < 8) (w : World) : (Op.shift .shr .u64 (v : Int) .i64 (8 * (k : Int))).run P w = .ok (.int .u64 ((v / 256 ^ k : Nat) : Int)) w := by
  have h1 : ¬ (8 * (k : Int) < 0) := by omega
  have h2 : min (8 * (k : Int)).toNat IntKind.u64.bits = 8 * k := by
    have : IntKind.u64.bits = 64 := rfl
    rw [this]; omega
  unfold Op.shift
  rw [if_neg h1, h2]
  have h3 : (v : Int).fdiv (2 ^ (8 * k)) = ((v / 256 ^ k : Nat) : Int) := by
    rw [show (256 : Nat) = 2 ^ 8 from rfl, ← Nat.pow_mul]
    rw [Int.fdiv_eq_ediv_of_nonneg _ (Int.pow_nonneg (by decide))]
    push_cast
    rfl
  simp only [h3]
  rfl

/-- what append does in a round of 'fixed', at whatever world it is met in -/
def FixRel (w : World) (S : Nat → Prop) (p v n : Nat) (bs : List UInt8) (g : Nat) (i : Value) (wr : World) : Prop :=
  ∃ pre : List UInt8, g ≤ n ∧ i = .int .i64 ((g : Int) - 1) ∧ num v n = pre ++ num v g ∧ Wr wr (More S w) p (bs ++ pre) ∧ Turned S w wr

set_option maxRecDepth 100000 in
set_option maxHeartbeats 1000000 in
theorem fixed_any {S : Nat → Prop} {p : Nat} {bs : List UInt8} (v n : Nat) (w : World) (h : Wr w S p bs) (hv : v < 18446744073709551616) (hn : n ≤ 8) (hL : bs.length + n ≤ 1099511627776) :
    Calls Try.prog 76 #[pt p, .int .u64 v, .int .i64 n] w fun e w' => e = .returned (.tuple #[]) ∧ Wr w' (More S w) p (bs ++ num v n) ∧ Turned S w w' := by
  have HW : Hid (FixRel w S p v n bs n (.int .i64 ((n : Int) - 1)) w) := ⟨[], Nat.le_refl _, rfl, rfl, by rw [List.append_nil]; exact h.widen fun _ q => .inl q, Turned.refl _ _⟩
  have V : Hid (v < 18446744073709551616 ∧ bs.length + n ≤ 1099511627776) := ⟨hv, hL⟩
  clear h hv hL
  go_enter Try.func76, Try.ntmps76
  go_wp2
  go_loopg [2] n (fun g i wr => FixRel w S p v n bs g i wr)
  case atStart => exact HW.out
  case round =>
    obtain ⟨pre, hg, rfl, hnum, hWr, ht⟩ := hrel
    have F : Hid (num v n = pre ++ num v gk ∧ Turned S w wr) := ⟨hnum, ht⟩
    clear hnum ht
    rcases Nat.eq_zero_or_pos gk with rfl | hpos
    · have hd : decide ((0 : Int) ≤ ((0 : Nat) : Int) - 1) = false := by decide
      have X : Hid (Wr wr (More S w) p (bs ++ pre)) := hWr
      clear hWr
      go_wp2
      go_end0
      have hpre : num v n = pre := by have := F.out.1; rwa [num, List.append_nil] at this
      rw [hpre]
      exact ⟨rfl, X.out, F.out.2⟩
    · obtain ⟨k, rfl⟩ : ∃ k, gk = k + 1 := ⟨gk - 1, by omega⟩
      obtain ⟨hp, sv, R, hb, hsl, hpR, hR⟩ := hWr
      have hc := cell_of hb 0 _ rfl
      have hfr := free_of hb 0
      have hlt := lt_of_block hb
      obtain ⟨a, cap, rfl, -, -⟩ := hsl.value
      have hlen : (bs ++ pre).length + 1 ≤ 1099511627776 := by
        have h1 := congrArg List.length F.out.1
        rw [num_length, List.length_append, num_length] at h1
        have := V.out.2
        rw [List.length_append]; omega
      have h1 : Hid ((bs ++ pre).length + 1 ≤ maxLen) := (by simp only [maxLen]; omega : (bs ++ pre).length + 1 ≤ maxLen)
      have h2 : Hid (((bs ++ pre).length + 1) * 1 ≤ 140737488355328) := (by omega : ((bs ++ pre).length + 1) * 1 ≤ 140737488355328)
      have X : Hid (More S w p ∧ (∀ b, R b → More S w b) ∧ ¬ R p ∧ Blk wr p #[.slice a (bs ++ pre).length cap] 104 ∧ Sl wr R 5 1 (.slice a (bs ++ pre).length cap) (bcells (bs ++ pre)) (bs ++ pre).length) := ⟨hp, hR, hpR, hb, hsl⟩
      clear hp hR hpR hb hsl hlen
      generalize hLL : (bs ++ pre).length = L at *
      have HL : Hid ((bs ++ pre).length = L) := hLL
      clear hLL
      have hk : ((k + 1 : Nat) : Int) - 1 = k := by omega
      have hnew := World.new_ne wr ⟨p, 0, none⟩ hc
      rw [hk]
      clear hk
      have hwr : IntKind.i64.wrap (8 * (k : Int)) = 8 * k := by rw [IntKind.wrap_i64]; omega
      have hsh := shr_any Try.prog v k (by omega)
      have Y : Hid (k < 8) := (by omega : k < 8)
      have hX : IntKind.u8.wrap ((v : Int) / 2 ^ (8 * (k : Int)).toNat) = ((UInt8.ofNat (v / 256 ^ k)).toNat : Nat) := by
        have h8 : (8 * (k : Int)).toNat = 8 * k := by omega
        rw [IntKind.wrap_u8, h8]
        have : (UInt8.ofNat (v / 256 ^ k)).toNat = v / 256 ^ k % 256 := by simp
        rw [this, show (256 : Nat) = 2 ^ 8 from rfl, ← Nat.pow_mul]
        push_cast
        rfl
      have HX : Hid (IntKind.u8.wrap ((v : Int) / 2 ^ (8 * (k : Int)).toNat) = ((UInt8.ofNat (v / 256 ^ k)).toNat : Nat)) := hX
      clear hX
      have HSL : Hid (Sl ((wr.alloc (.cells #[.int .u8 (IntKind.u8.wrap ((v : Int) / 2 ^ (8 * (k : Int)).toNat))] 5)).drew) R 5 1 (.slice a L cap) (bcells (bs ++ pre)) L) :=
        (X.out.2.2.2.2.turned (Turned.alloc (fun _ => False) _ _) (fun _ _ q => q)).drew
      have HSRC : Hid (Src Try.prog 1 51 (.slice (some ⟨wr.heap.size, 0, none⟩) 1 1) 1 [.int .u8 (IntKind.u8.wrap ((v : Int) / 2 ^ (8 * (k : Int)).toNat))] ((wr.alloc (.cells #[.int .u8 (IntKind.u8.wrap ((v : Int) / 2 ^ (8 * (k : Int)).toNat))] 5)).drew)) := by
        refine Src.ofSlice _ Try.underlying51 ⟨wr.heap.size, 0, none⟩ 1 1 _ rfl (fun j u hj => ?_) (fun u hu => ?_)
        · rcases j with _ | j
          · simp at hj
            subst hj
            exact cell_of (heap_alloc_last wr _) 0 _ rfl
          · simp at hj
        · simp at hu; subst hu; rfl
      go_wp2
      go_region_law ((refine step_append (by rfl) _ _ 51 51 (by rfl) HSL.out Try.underlying51 info5 rfl (by decide) (by rfl) (.slice (some ⟨wr.heap.size, 0, none⟩) 1 1) (by rfl) HSRC.out h1.out h2.out ?_; intro v' w1 hsl1 ht1; obtain ⟨a2, cap2, hv2, -, -⟩ := hsl1.value; subst hv2; have ht2 := (Turned.alloc (fun b => R b) wr (.cells #[.int .u8 (IntKind.u8.wrap ((v : Int) / 2 ^ (8 * (k : Int)).toNat))] 5)).trans ((Turned.drew (fun b => R b) _).trans ht1 fun _ _ q => q) fun _ _ q => q; have hb1 : Blk w1 p #[.slice a L cap] 104 := Blk.turned (w := wr) X.out.2.2.2.1 ht2 X.out.2.2.1; have hf1 := free_of hb1 0; have hc1 := cell_of hb1 0 _ rfl; have HQ : Hid (Sl w1 _ 5 1 _ _ (L + 1) ∧ Turned _ wr w1 ∧ Blk w1 p _ 104) := ⟨hsl1, ht2, hb1⟩; clear hsl1 ht1 ht2 hb1))
      all_goals go_wp2
      all_goals
        go_roundg k
        case measure => omega
        case rel =>
          obtain ⟨q1, q2, q3⟩ := HQ.out
          have hsz : (wr.alloc (.cells #[.int .u8 (IntKind.u8.wrap ((v : Int) / 2 ^ (8 * (k : Int)).toNat))] 5)).drew.heap.size = wr.heap.size + 1 := by simp
          have t2 : Turned (· = p) w1 (w1.setCell ⟨p, 0, none⟩ (.slice a2 (L + 1) cap2)) := Turned.setCell (S := (· = p)) (p := ⟨p, 0, none⟩) rfl _
          have hb2 : Blk (w1.setCell ⟨p, 0, none⟩ (.slice a2 (L + 1) cap2)) p #[.slice a2 (L + 1) cap2] 104 := Go.Mine.heap_setCell_same q3 _
          rw [HX.out] at q1 hsz
          have q1' : Sl w1 (More R wr) 5 1 (.slice a2 (L + 1) cap2) (bcells (bs ++ pre) ++ bcells [UInt8.ofNat (v / 256 ^ k)]) ((bs ++ pre).length + [UInt8.ofNat (v / 256 ^ k)].length) := by
            rw [HL.out]
            exact q1.widen fun b q => q.elim .inl fun q => .inr (by omega)
          have hput := Wr.put X.out.1 X.out.2.1 X.out.2.2.1 hlt q1' (q2.comp t2 fun i _ q => q.elim (X.out.2.1 i) fun q => q ▸ X.out.1) t2 hb2
          have hs0 := F.out.2.size
          refine ⟨pre ++ [UInt8.ofNat (v / 256 ^ k)], by omega, rfl, ?_, ?_, F.out.2.trans hput.2 fun i hi q => q.elim id fun q => by omega⟩
          · rw [F.out.1, num, List.append_assoc]; rfl
          · rw [← List.append_assoc]
            exact hput.1.widen fun b q => q.elim id fun q => .inr (by omega)
end Go.Proofs.Ytfeljngmidhajaa
