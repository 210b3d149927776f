/- Packed. -/
import Derived.Test.YtofcogekgcgjhaaGreatDoorZzae
import Derived.Deep.RegionLaw
set_option linter.unusedVariables false
set_option linter.unusedSimpArgs false
set_option maxRecDepth 100000
namespace Go.Proofs.YtofcogekgcgjhaaGreatDoor
open Go.RowKit Go.Mine
theorem byteCells_eq (s : ByteArray) : byteCells s = bcells s.data.toList := rfl
set_option maxHeartbeats 1000000 in
theorem raw_any {S : Nat → Prop} {p : Nat} {bs : List UInt8} (s : ByteArray) (w : World) (h : Wr w S p bs) (hL : bs.length + s.size ≤ 1099511627776) :
  Calls Tryz.prog 149 #[pt p, .string s] w fun e w' => e = .returned (.tuple #[]) ∧ Wr w' (More S w) p (bs ++ s.data.toList) ∧ Turned S w w' := by
 obtain ⟨hp, v, R, hb, hsl, hpR, hR⟩ := h
 have hc := cell_of hb 0 _ rfl
 have hfr := free_of hb 0
 have hlt := lt_of_block hb
 have hsz : s.data.toList.length = s.size := by rw [Array.length_toList]; rfl
 have h1 : bs.length + s.size ≤ maxLen := by simp [maxLen]; omega
 have h2 : (bs.length + s.size) * 1 ≤ 140737488355328 := by omega
 have X : Hid (S p ∧ (∀ b, R b → S b) ∧ ¬ R p ∧ Blk w p #[v] 300) := ⟨hp, hR, hpR, hb⟩
 have H1 : Hid (bs.length + s.size ≤ maxLen) := h1
 have H2 : Hid ((bs.length + s.size) * 1 ≤ 140737488355328) := h2
 have HS : Hid (Sl w R 5 1 v (bcells bs) bs.length) := hsl
 clear hp hR hpR hb h1 h2 hsl hL
 obtain ⟨a, cap, hv, -, -⟩ := HS.out.value
 have V : Hid (v = .slice a bs.length cap) := hv
 clear hv
 go_enter Tryz.func149, Tryz.ntmps149
 go_wp2_with (at_builtin; refine wpList_append rfl _ _ 83 9 rfl HS.out Tryz.underlying83 info5 rfl (by decide) rfl (.string s) rfl (Src.ofString w Tryz.underlying9 s) H1.out H2.out ?_; intro v' w1 hsl1 ht1; obtain ⟨a2, cap2, hv2, -, -⟩ := hsl1.value; subst hv2; have hb1 : Blk w1 p #[v] 300 := X.out.2.2.2.turned ht1 X.out.2.2.1; have hc1 := cell_of hb1 0 _ rfl; have hf1 := free_of hb1 0)
 go_end0
 have t2 : Turned (· = p) w1 (w1.setCell ⟨p, 0, none⟩ (.slice a2 (bs.length + s.size) cap2)) := Turned.setCell (S := (· = p)) (p := ⟨p, 0, none⟩) rfl _
 have hb2 : Blk (w1.setCell ⟨p, 0, none⟩ (.slice a2 (bs.length + s.size) cap2)) p #[.slice a2 (bs.length + s.size) cap2] 300 := Go.Mine.heap_setCell_same hb1 _
 rw [byteCells_eq, ← hsz] at hsl1
 have := Wr.put X.out.1 X.out.2.1 X.out.2.2.1 hlt hsl1 (ht1.comp t2 fun i _ q => q.elim (X.out.2.1 i) fun q => q ▸ X.out.1) t2 hb2
 exact ⟨rfl, this⟩
theorem shr_any (P : Program) (v k : Nat) (hk : k < 8) (w : World) : (Op.shift .shr .u64 (v : Int) .i64 (8 * (k : Int))).run P w = .ok (.int .u64 ((v / 256 ^ k : Nat) : Int)) w := by
 have h1 : ¬ (8 * (k : Int) < 0) := by omega
 have h2 : min (8 * (k : Int)).toNat IntKind.u64.bits = 8 * k := by
  have : IntKind.u64.bits = 64 := rfl
  rw [this]; omega
 unfold Op.shift
 rw [if_neg h1, h2]
 have h3 : (v : Int).fdiv (2 ^ (8 * k)) = ((v / 256 ^ k : Nat) : Int) := by
  rw [show (256 : Nat) = 2 ^ 8 from rfl, ← Nat.pow_mul]
  rw [Int.fdiv_eq_ediv_of_nonneg _ (Int.pow_nonneg (by decide))]
  push_cast
  rfl
 simp only [h3]
 rfl
def FixRel (w : World) (S : Nat → Prop) (p v n : Nat) (bs : List UInt8) (g : Nat) (i : Value) (wr : World) : Prop :=
 ∃ pre : List UInt8, g ≤ n ∧ i = .int .i64 ((g : Int) - 1) ∧ num v n = pre ++ num v g ∧ Wr wr (More S w) p (bs ++ pre) ∧ Turned S w wr
set_option maxHeartbeats 1000000 in
theorem fixed_any {S : Nat → Prop} {p : Nat} {bs : List UInt8} (v n : Nat) (w : World) (h : Wr w S p bs) (hv : v < 18446744073709551616) (hn : n ≤ 8) (hL : bs.length + n ≤ 1099511627776) :
  Calls Tryz.prog 234 #[pt p, .int .u64 v, .int .i64 n] w fun e w' => e = .returned (.tuple #[]) ∧ Wr w' (More S w) p (bs ++ num v n) ∧ Turned S w w' := by
 have HW : Hid (FixRel w S p v n bs n (.int .i64 ((n : Int) - 1)) w) := ⟨[], Nat.le_refl _, rfl, rfl, by rw [List.append_nil]; exact h.widen fun _ q => .inl q, Turned.refl _ _⟩
 have V : Hid (v < 18446744073709551616 ∧ bs.length + n ≤ 1099511627776) := ⟨hv, hL⟩
 clear h hv hL
 go_enter Tryz.func234, Tryz.ntmps234
 go_wp2
 go_loopg [2] n (fun g i wr => FixRel w S p v n bs g i wr)
 case atStart => exact HW.out
 case round =>
  obtain ⟨pre, hg, rfl, hnum, hWr, ht⟩ := hrel
  have F : Hid (num v n = pre ++ num v gk ∧ Turned S w wr) := ⟨hnum, ht⟩
  clear hnum ht
  rcases Nat.eq_zero_or_pos gk with rfl | hpos
  ·have hd : decide ((0 : Int) ≤ ((0 : Nat) : Int) - 1) = false := by decide
   have X : Hid (Wr wr (More S w) p (bs ++ pre)) := hWr
   clear hWr
   go_wp2
   go_end0
   have hpre : num v n = pre := by have := F.out.1; rwa [num, List.append_nil] at this
   rw [hpre]
   exact ⟨rfl, X.out, F.out.2⟩
  ·obtain ⟨k, rfl⟩ : ∃ k, gk = k + 1 := ⟨gk - 1, by omega⟩
   obtain ⟨hp, sv, R, hb, hsl, hpR, hR⟩ := hWr
   have hc := cell_of hb 0 _ rfl
   have hfr := free_of hb 0
   have hlt := lt_of_block hb
   obtain ⟨a, cap, rfl, -, -⟩ := hsl.value
   have hlen : (bs ++ pre).length + 1 ≤ 1099511627776 := by
    have h1 := congrArg List.length F.out.1
    rw [num_length, List.length_append, num_length] at h1
    have := V.out.2
    rw [List.length_append]; omega
   have h1 : Hid ((bs ++ pre).length + 1 ≤ maxLen) := (by simp only [maxLen]; omega : (bs ++ pre).length + 1 ≤ maxLen)
   have h2 : Hid (((bs ++ pre).length + 1) * 1 ≤ 140737488355328) := (by omega : ((bs ++ pre).length + 1) * 1 ≤ 140737488355328)
   have X : Hid (More S w p ∧ (∀ b, R b → More S w b) ∧ ¬ R p ∧ Blk wr p #[.slice a (bs ++ pre).length cap] 300 ∧ Sl wr R 5 1 (.slice a (bs ++ pre).length cap) (bcells (bs ++ pre)) (bs ++ pre).length) := ⟨hp, hR, hpR, hb, hsl⟩
   clear hp hR hpR hb hsl hlen
   generalize hLL : (bs ++ pre).length = L at *
   have HL : Hid ((bs ++ pre).length = L) := hLL
   clear hLL
   have hk : ((k + 1 : Nat) : Int) - 1 = k := by omega
   have hnew := World.new_ne wr ⟨p, 0, none⟩ hc
   rw [hk]
   clear hk
   have hwr : IntKind.i64.wrap (8 * (k : Int)) = 8 * k := by rw [IntKind.wrap_i64]; omega
   have hsh := shr_any Tryz.prog v k (by omega)
   have Y : Hid (k < 8) := (by omega : k < 8)
   have hX : IntKind.u8.wrap ((v : Int) / 2 ^ (8 * (k : Int)).toNat) = ((UInt8.ofNat (v / 256 ^ k)).toNat : Nat) := by
    have h8 : (8 * (k : Int)).toNat = 8 * k := by omega
    rw [IntKind.wrap_u8, h8]
    have : (UInt8.ofNat (v / 256 ^ k)).toNat = v / 256 ^ k % 256 := by simp
    rw [this, show (256 : Nat) = 2 ^ 8 from rfl, ← Nat.pow_mul]
    push_cast
    rfl
   have HX : Hid (IntKind.u8.wrap ((v : Int) / 2 ^ (8 * (k : Int)).toNat) = ((UInt8.ofNat (v / 256 ^ k)).toNat : Nat)) := hX
   clear hX
   have HSL : Hid (Sl ((wr.alloc (.cells #[.int .u8 (IntKind.u8.wrap ((v : Int) / 2 ^ (8 * (k : Int)).toNat))] 5)).drew) R 5 1 (.slice a L cap) (bcells (bs ++ pre)) L) :=
    (X.out.2.2.2.2.turned (Turned.alloc (fun _ => False) _ _) (fun _ _ q => q)).drew
   have HSRC : Hid (Src Tryz.prog 1 83 (.slice (some ⟨wr.heap.size, 0, none⟩) 1 1) 1 [.int .u8 (IntKind.u8.wrap ((v : Int) / 2 ^ (8 * (k : Int)).toNat))] ((wr.alloc (.cells #[.int .u8 (IntKind.u8.wrap ((v : Int) / 2 ^ (8 * (k : Int)).toNat))] 5)).drew)) := by
    refine Src.ofSlice _ Tryz.underlying83 ⟨wr.heap.size, 0, none⟩ 1 1 _ rfl (fun j u hj => ?_) (fun u hu => ?_)
    ·rcases j with _ | j
     ·simp at hj
      subst hj
      exact cell_of (heap_alloc_last wr _) 0 _ rfl
     ·simp at hj
    ·simp at hu; subst hu; rfl
   go_wp2
   go_region_law ((refine step_append (by rfl) _ _ 83 83 (by rfl) HSL.out Tryz.underlying83 info5 rfl (by decide) (by rfl) (.slice (some ⟨wr.heap.size, 0, none⟩) 1 1) (by rfl) HSRC.out h1.out h2.out ?_; intro v' w1 hsl1 ht1; obtain ⟨a2, cap2, hv2, -, -⟩ := hsl1.value; subst hv2; have ht2 := (Turned.alloc (fun b => R b) wr (.cells #[.int .u8 (IntKind.u8.wrap ((v : Int) / 2 ^ (8 * (k : Int)).toNat))] 5)).trans ((Turned.drew (fun b => R b) _).trans ht1 fun _ _ q => q) fun _ _ q => q; have hb1 : Blk w1 p #[.slice a L cap] 300 := Blk.turned (w := wr) X.out.2.2.2.1 ht2 X.out.2.2.1; have hf1 := free_of hb1 0; have hc1 := cell_of hb1 0 _ rfl; have HQ : Hid (Sl w1 _ 5 1 _ _ (L + 1) ∧ Turned _ wr w1 ∧ Blk w1 p _ 300) := ⟨hsl1, ht2, hb1⟩; clear hsl1 ht1 ht2 hb1))
   all_goals go_wp2
   all_goals
    go_roundg k
    case measure => omega
    case rel =>
     obtain ⟨q1, q2, q3⟩ := HQ.out
     have hsz : (wr.alloc (.cells #[.int .u8 (IntKind.u8.wrap ((v : Int) / 2 ^ (8 * (k : Int)).toNat))] 5)).drew.heap.size = wr.heap.size + 1 := by simp
     have t2 : Turned (· = p) w1 (w1.setCell ⟨p, 0, none⟩ (.slice a2 (L + 1) cap2)) := Turned.setCell (S := (· = p)) (p := ⟨p, 0, none⟩) rfl _
     have hb2 : Blk (w1.setCell ⟨p, 0, none⟩ (.slice a2 (L + 1) cap2)) p #[.slice a2 (L + 1) cap2] 300 := Go.Mine.heap_setCell_same q3 _
     rw [HX.out] at q1 hsz
     have q1' : Sl w1 (More R wr) 5 1 (.slice a2 (L + 1) cap2) (bcells (bs ++ pre) ++ bcells [UInt8.ofNat (v / 256 ^ k)]) ((bs ++ pre).length + [UInt8.ofNat (v / 256 ^ k)].length) := by
      rw [HL.out]
      exact q1.widen fun b q => q.elim .inl fun q => .inr (by omega)
     have hput := Wr.put X.out.1 X.out.2.1 X.out.2.2.1 hlt q1' (q2.comp t2 fun i _ q => q.elim (X.out.2.1 i) fun q => q ▸ X.out.1) t2 hb2
     have hs0 := F.out.2.size
     refine ⟨pre ++ [UInt8.ofNat (v / 256 ^ k)], by omega, rfl, ?_, ?_, F.out.2.trans hput.2 fun i hi q => q.elim id fun q => by omega⟩
     ·rw [F.out.1, num, List.append_assoc]; rfl
     ·rw [← List.append_assoc]
      exact hput.1.widen fun b q => q.elim id fun q => .inr (by omega)
theorem newWriter_any (w : World) : Calls Tryz.prog 145 #[] w fun e w' => e = .returned (pt w.heap.size) ∧ Wr w' (fun b => w.heap.size ≤ b) w.heap.size [] ∧ Turned (fun _ => False) w w' ∧ w'.heap.size = w.heap.size + 1 := by
 go_enter Tryz.func145, Tryz.ntmps145
 go_wp2
 go_ret
 refine ⟨rfl, ⟨Nat.le_refl _, .slice none 0 0, fun _ => False, ?_, Sl.nil _ _ _ _, fun q => q, fun _ q => q.elim⟩, Turned.alloc _ _ _, by simp⟩
 exact heap_alloc_last w _
theorem u8_any {S : Nat → Prop} {p : Nat} {bs : List UInt8} (v : Nat) (w : World) (h : Wr w S p bs) (hv : v < 256) (hL : bs.length + 1 ≤ 1099511627776) :
  Calls Tryz.prog 148 #[pt p, .int .u8 v] w fun e w' => e = .returned (.tuple #[]) ∧ Wr w' (More S w) p (bs ++ num v 1) ∧ Turned S w w' := by
 have hf : Calls Tryz.prog 234 #[pt p, .int .u64 v, .int .i64 1] w fun e w' => e = .returned (.tuple #[]) ∧ Wr w' (More S w) p (bs ++ num v 1) ∧ Turned S w w' := fixed_any v 1 w h (by omega) (by omega) hL
 have hm : ((v : Int) % 18446744073709551616) = v := by omega
 clear h hv hL
 go_enter Tryz.func148, Tryz.ntmps148
 go_wp2_with (go_at_call 234; (with_reducible refine hf.mono ?_); rintro e w2 ⟨rfl, hw, ht⟩)
 go_end0
 exact ⟨rfl, hw, ht⟩
theorem u32_any {S : Nat → Prop} {p : Nat} {bs : List UInt8} (v : Nat) (w : World) (h : Wr w S p bs) (hv : v < 4294967296) (hL : bs.length + 4 ≤ 1099511627776) :
  Calls Tryz.prog 150 #[pt p, .int .u32 v] w fun e w' => e = .returned (.tuple #[]) ∧ Wr w' (More S w) p (bs ++ num v 4) ∧ Turned S w w' := by
 have hf : Calls Tryz.prog 234 #[pt p, .int .u64 v, .int .i64 4] w fun e w' => e = .returned (.tuple #[]) ∧ Wr w' (More S w) p (bs ++ num v 4) ∧ Turned S w w' := fixed_any v 4 w h (by omega) (by omega) hL
 have hm : ((v : Int) % 18446744073709551616) = v := by omega
 clear h hv hL
 go_enter Tryz.func150, Tryz.ntmps150
 go_wp2_with (go_at_call 234; (with_reducible refine hf.mono ?_); rintro e w2 ⟨rfl, hw, ht⟩)
 go_end0
 exact ⟨rfl, hw, ht⟩
theorem sl_back {w : World} {R : Nat → Prop} {v : Value} {bs : List UInt8} (h : Sl w R 5 1 v (bcells bs) bs.length) : (convert 83 9 v).run Tryz.prog w = .ok (.string ⟨bs.toArray⟩) w := by
 rcases h.2 with ⟨rfl, hn⟩ | ⟨g, off, cap, cur, rfl, -, hg, hnc, hcm, hcs, htake⟩
 ·have : bs = [] := List.eq_nil_of_length_eq_zero hn
  subst this
  exact run_convert_bytes_nil w 83 5 Tryz.underlying83 Tryz.underlying5 0 0 9 Tryz.underlying9
 ·refine run_convert_bytes_back (P := Tryz.prog) w 83 9 5 ⟨g, off, none⟩ cap bs Tryz.underlying83 Tryz.underlying5 Tryz.underlying9 fun j hj => ?_
  rw [Addr.add_lit, cell_of_row _ _ _ _ _ _ hg]
  have h1 : ((cur.toList.drop off).take (bs.length * 1))[j]? = some (.int .u8 (bs[j].toNat : Nat)) := by
   rw [htake]
   simp [bcells, hj]
  rw [List.getElem?_take, if_pos (by omega), List.getElem?_drop] at h1
  simpa using h1
theorem bytes_any {S : Nat → Prop} {p : Nat} {bs : List UInt8} (w : World) (h : Wr w S p bs) :
  Calls Tryz.prog 151 #[pt p] w fun e w' => e = .returned (.string ⟨bs.toArray⟩) ∧ w = w' := by
 obtain ⟨hp, v, R, hb, hsl, hpR, hR⟩ := h
 have hc := cell_of hb 0 _ rfl
 have hlt := lt_of_block hb
 have hbk := sl_back hsl
 clear hp hpR hR hb hsl
 go_enter Tryz.func151, Tryz.ntmps151
 go_wp2
 go_ret
 exact ⟨rfl, rfl⟩
end Go.Proofs.YtofcogekgcgjhaaGreatDoor
namespace Go.Proofs.YtofcogekgcgjhaaGreatDoor.Ch
open Go.RowKit Go.Mine
abbrev Ln := Int × Int × Nat
abbrev lnv (x : Ln) : Value := .agg #[.int .i64 x.1, .int .i64 x.2.1, .int .u32 (x.2.2 : Nat)]
def I64 (n : Int) : Prop := -9223372036854775808 ≤ n ∧ n ≤ 9223372036854775807
def LnIs (w : World) (a : Option Addr) (cap : Nat) (l : List Ln) : Prop :=
 l.length ≤ cap ∧ cap ≤ maxLen ∧ (∀ x ∈ l, I64 x.1 ∧ I64 x.2.1 ∧ x.2.2 < 4294967296) ∧ (0 < l.length → ∃ b off, a = some ⟨b, off, none⟩ ∧ b < w.heap.size ∧
  ∀ i x, l[i]? = some x → w.cell? ⟨b, off + i * 3, none⟩ = some (.int .i64 x.1) ∧ w.cell? ⟨b, off + i * 3 + 1, none⟩ = some (.int .i64 x.2.1) ∧ w.cell? ⟨b, off + i * 3 + 2, none⟩ = some (.int .u32 (x.2.2 : Nat)))
theorem LnIs.turned {w w' : World} {a : Option Addr} {cap : Nat} {l : List Ln} (h : LnIs w a cap l) (ht : Turned (fun _ => False) w w') : LnIs w' a cap l := by
 refine ⟨h.1, h.2.1, h.2.2.1, fun h0 => ?_⟩
 obtain ⟨b, off, h1, h2, h3⟩ := h.2.2.2 h0
 refine ⟨b, off, h1, Nat.lt_of_lt_of_le h2 ht.size, fun i x hi => ?_⟩
 have hb := fun o => World.cell?_of_block (w := w) (w' := w') (a := ⟨b, o, none⟩) (ht.block b h2 fun q => q)
 rw [hb, hb, hb]
 exact h3 i x hi
theorem lnIs_any {w : World} {a : Option Addr} {cap : Nat} {l : List Ln} (h : LnIs w a cap l) (j : Nat) (x : Ln) (hx : l[j]? = some x) :
  ∃ b off, a = some ⟨b, off, none⟩ ∧ b < w.heap.size ∧ w.cell? ⟨b, off + j * 3, none⟩ = some (.int .i64 x.1) ∧ w.cell? ⟨b, off + j * 3 + 1, none⟩ = some (.int .i64 x.2.1) ∧ w.cell? ⟨b, off + j * 3 + 2, none⟩ = some (.int .u32 (x.2.2 : Nat)) := by
 have hj := (List.getElem?_eq_some_iff.1 hx).1
 obtain ⟨b, off, h1, h2, h3⟩ := h.2.2.2 (by omega)
 exact ⟨b, off, h1, h2, h3 j x hx⟩
def numb (n : Int) : Bool := decide (0 ≤ n) && decide (n ≤ 1073741824)
theorem numbered_any (n : Int) (w : World) : Calls Tryz.prog 212 #[.int .i64 n] w fun e w' => e = .returned (.bool (numb n)) ∧ w = w' := by
 unfold numb
 by_cases h : 0 ≤ n
 ·have hd : decide (0 ≤ n) = true := by simp [h]
  rw [hd, Bool.true_and]
  go_enter Tryz.func212, Tryz.ntmps212
  go_wp2
  go_ret
  exact ⟨rfl, rfl⟩
 ·have hd : decide (0 ≤ n) = false := by simp [h]
  rw [hd, Bool.false_and]
  go_enter Tryz.func212, Tryz.ntmps212
  go_wp2
  go_ret
  exact ⟨rfl, rfl⟩
theorem lsame_any (x d : Ln) (p : Nat) (w : World) (hx : w.cell? ⟨p, 0, none⟩ = some (.int .i64 d.1)) :
  Calls Tryz.prog 213 #[lnv x, pt p] w fun e w' => e = .returned (.bool (x.1 == d.1)) ∧ Turned (fun _ => False) w w' := by
 have hlt := lt_of_cell hx
 go_enter Tryz.func213, Tryz.ntmps213
 go_wp2
 go_ret
 exact ⟨by rfl, Turned.alloc _ _ _⟩
def hasLn (l : List Ln) (n : Int) : Bool := l.any (fun x => x.1 == n)
def LIdxRel (w : World) (l : List Ln) (n : Int) (g : Nat) (i : Value) (wr : World) : Prop :=
 ∃ j : Nat, j + g = l.length ∧ i = .int .i64 j ∧ (∀ t d, t < j → l[t]? = some d → d.1 ≠ n) ∧ Turned (fun _ => False) w wr
def LIdxPost (w : World) (l : List Ln) (n : Int) (e : Ending) (w' : World) : Prop :=
 Turned (fun _ => False) w w' ∧ ((hasLn l n = false ∧ e = .returned (.int .i64 (-1))) ∨ (hasLn l n = true ∧ ∃ j : Nat, e = .returned (.int .i64 j)))
set_option maxHeartbeats 1000000 in
theorem lindex_any (a : Option Addr) (cap p : Nat) (l : List Ln) (d : Ln) (w : World) (h : LnIs w a cap l) (hx : w.cell? ⟨p, 0, none⟩ = some (.int .i64 d.1)) :
  Calls Tryz.prog 230 #[.slice a l.length cap, .func (.func 213) #[] #[pt p]] w (LIdxPost w l d.1) := by
 have H : Hid (LnIs w a cap l) := h
 have HX : Hid (w.cell? ⟨p, 0, none⟩ = some (.int .i64 d.1)) := hx
 obtain ⟨L, hL⟩ : ∃ L, L = l.length := ⟨_, rfl⟩
 have HL : Hid (L = l.length) := hL
 rw [← hL]
 have hcap : Hid (L ≤ 9223372036854775807) := (by rw [hL]; have := h.1; have := h.2.1; simp only [maxLen] at this; omega : L ≤ 9223372036854775807)
 clear h hL hx
 go_enter Tryz.func230, Tryz.ntmps230
 go_wp2
 have HS : Hid (LIdxRel w l d.1 L (.int .i64 0) w) := ⟨0, by rw [HL.out, Nat.zero_add], rfl, fun t d ht => by omega, Turned.refl _ _⟩
 go_loopg [8] L (fun g i wr => LIdxRel w l d.1 g i wr)
 case atStart => exact HS.out
 case round =>
  obtain ⟨j, hjg, rfl, hno, ht⟩ := hrel
  have N : Hid (∀ t e, t < j → l[t]? = some e → e.1 ≠ d.1) := hno
  have T : Hid (Turned (fun _ => False) w wr) := ht
  have G : Hid (j + gk = l.length) := hjg
  clear hno ht hjg HS
  by_cases hlt : j < L
  ·obtain ⟨c, hc⟩ : ∃ c, l[j]? = some c := ⟨_, List.getElem?_eq_getElem (by rw [← HL.out]; exact hlt)⟩
   obtain ⟨b, off, rfl, hbw, c0, c1, c2⟩ := lnIs_any (H.out.turned T.out) j c hc
   have hw : wrap64 ((j : Int) + 1) = ((j + 1 : Nat) : Int) := by have := hcap.out; simp [wrap64]; omega
   have HW : Hid (wrap64 ((j : Int) + 1) = ((j + 1 : Nat) : Int)) := hw
   have C : Hid (l[j]? = some c) := hc
   have hs : Calls Tryz.prog 213 #[lnv c, pt p] wr fun e w' => e = .returned (.bool (c.1 == d.1)) ∧ Turned (fun _ => False) wr w' := lsame_any c d p wr (by rw [World.cell?_of_block (w' := wr) (T.out.block p (lt_of_cell HX.out) fun q => q)]; exact HX.out)
   clear hc hw
   by_cases hid : c.1 = d.1
   ·rw [show (c.1 == d.1) = true by simp [hid]] at hs
    have HI : Hid (c.1 = d.1) := hid
    clear hid
    go_wp2_with (go_at_call 213; (with_reducible refine hs.mono ?_); rintro e w2 ⟨rfl, ht2⟩)
    go_ret
    refine ⟨T.out.trans ht2 fun _ _ q => q, .inr ⟨?_, j, rfl⟩⟩
    unfold hasLn
    rw [List.any_eq_true]
    exact ⟨c, List.mem_of_getElem? C.out, by simpa using HI.out⟩
   ·rw [show (c.1 == d.1) = false by simp [hid]] at hs
    have HI : Hid (c.1 ≠ d.1) := hid
    clear hid
    go_wp2_with (go_at_call 213; (with_reducible refine hs.mono ?_); rintro e w2 ⟨rfl, ht2⟩)
    go_roundg (gk - 1)
    case measure => have := G.out; have := HL.out; omega
    case rel =>
     refine ⟨j + 1, by have := G.out; have := HL.out; omega, by rw [HW.out], fun t e ht hd => ?_, T.out.trans ht2 fun _ _ q => q⟩
     rcases Nat.lt_or_eq_of_le (Nat.le_of_lt_succ ht) with q | q
     ·exact N.out t e q hd
     ·rw [q, C.out] at hd; obtain rfl := Option.some.inj hd; exact HI.out
  ·go_wp2
   go_ret
   refine ⟨T.out, .inl ⟨?_, rfl⟩⟩
   unfold hasLn
   rw [List.any_eq_false]
   intro c hc
   obtain ⟨t, ht⟩ := List.getElem?_of_mem hc
   have := (List.getElem?_eq_some_iff.1 ht).1
   simpa using N.out t c (by have := HL.out; omega) ht
set_option maxHeartbeats 1000000 in
theorem lcontains_any (a : Option Addr) (cap p : Nat) (l : List Ln) (d : Ln) (w : World) (h : LnIs w a cap l) (hx : w.cell? ⟨p, 0, none⟩ = some (.int .i64 d.1)) :
  Calls Tryz.prog 139 #[.slice a l.length cap, .func (.func 213) #[] #[pt p]] w fun e w' => e = .returned (.bool (hasLn l d.1)) ∧ Turned (fun _ => False) w w' := by
 have hi := lindex_any a cap p l d w h hx
 clear h hx
 generalize hb : hasLn l d.1 = b
 have B : Hid (hasLn l d.1 = b) := hb
 clear hb
 go_enter Tryz.func139, Tryz.ntmps139
 go_wp2_with fail
 refine hi.mono ?_
 rintro e w1 ⟨ht, ⟨h1, rfl⟩ | ⟨h1, j, rfl⟩⟩
 ·rw [B.out] at h1
  subst h1
  go_wp2
  go_ret
  exact ⟨rfl, ht⟩
 ·rw [B.out] at h1
  subst h1
  have hj : decide ((0 : Int) ≤ (j : Int)) = true := by simp
  go_wp2
  go_ret
  exact ⟨rfl, ht⟩
def totLn : List Ln → Int
 | [] => 0
 | x :: l => x.2.1 + totLn l
theorem totLn_append (a b : List Ln) : totLn (a ++ b) = totLn a + totLn b := by
 induction a with
 | nil => simp [totLn]
 | cons x a ih => simp only [List.cons_append, totLn, ih]; omega
def TotRel (w : World) (l : List Ln) (g : Nat) (n i : Value) (wr : World) : Prop :=
 ∃ j : Nat, j + g = l.length ∧ i = .int .i64 j ∧ n = .int .i64 (totLn (l.take j)) ∧ Turned (fun _ => False) w wr
set_option maxHeartbeats 1000000 in
theorem total_any (a : Option Addr) (cap : Nat) (l : List Ln) (w : World) (h : LnIs w a cap l) (hb : ∀ j, I64 (totLn (l.take j))) (hl : l.length ≤ 100000) :
  Calls Tryz.prog 58 #[.slice a l.length cap] w fun e w' => e = .returned (.int .i64 (totLn l)) ∧ Turned (fun _ => False) w w' := by
 have H : Hid (LnIs w a cap l) := h
 have HB : Hid (∀ j, I64 (totLn (l.take j))) := hb
 obtain ⟨L, hL⟩ : ∃ L, L = l.length := ⟨_, rfl⟩
 have HL : Hid (L = l.length ∧ L ≤ 100000) := ⟨hL, by omega⟩
 rw [← hL]
 clear h hb hL hl
 go_enter Tryz.func58, Tryz.ntmps58
 go_wp2
 go_loopg [3, 8] L (fun g n i wr => TotRel w l g n i wr)
 case atStart => exact ⟨0, by have := HL.out.1; omega, rfl, rfl, Turned.refl _ _⟩
 case round =>
  obtain ⟨j, hjg, rfl, rfl, ht⟩ := hrel
  have T : Hid (Turned (fun _ => False) w wr) := ht
  have G : Hid (j + gk = l.length) := hjg
  clear ht hjg
  by_cases hlt : j < L
  ·obtain ⟨c, hc⟩ : ∃ c, l[j]? = some c := ⟨_, List.getElem?_eq_getElem (by rw [← HL.out.1]; exact hlt)⟩
   obtain ⟨b, off, rfl, hbw, c0, c1, c2⟩ := lnIs_any (H.out.turned T.out) j c hc
   have ht1 : totLn (l.take (j + 1)) = totLn (l.take j) + c.2.1 := by rw [List.take_add_one, hc, totLn_append]; simp [totLn]
   have hbb := HB.out (j + 1)
   have HT : Hid (wrap64 (totLn (l.take j) + c.2.1) = totLn (l.take (j + 1))) := by
    have : wrap64 (totLn (l.take j) + c.2.1) = totLn (l.take (j + 1)) := by rw [ht1] at hbb ⊢; unfold I64 at hbb; simp only [wrap64]; omega
    exact this
   clear hc ht1 hbb
   generalize totLn (l.take j) = n at *
   go_wp2
   go_roundg (gk - 1)
   case measure => have := G.out; have := HL.out; omega
   case rel => exact ⟨j + 1, by have := G.out; have := HL.out; omega, by have := HL.out; simp [wrap64]; omega, by rw [HT.out], T.out.new _⟩
  ·have hj : j = L := by have := G.out; have := HL.out; omega
   subst hj
   have HE : Hid (l.take j = l) := List.take_of_length_le (by have := HL.out.1; omega)
   go_wp2
   go_ret
   exact ⟨by rw [HE.out]; rfl, T.out⟩
end Go.Proofs.YtofcogekgcgjhaaGreatDoor.Ch
namespace Go.Proofs.YtofcogekgcgjhaaGreatDoor
open Go.RowKit Go.Mine
def RdIs (w : World) (p : Nat) (s : ByteArray) (st : Nat × Nat) : Prop :=
 Blk w p #[.string s, .int .i64 (st.1 : Nat), .int .i64 (st.2 : Nat)] 264
theorem RdIs.turned {w w' : World} {p : Nat} {s : ByteArray} {st : Nat × Nat} {S : Nat → Prop} (h : RdIs w p s st) (ht : Turned S w w') (hp : ¬ S p) : RdIs w' p s st := Blk.turned h ht hp
theorem setAt {w : World} {p : Nat} {s : ByteArray} {a e : Nat} (h : RdIs w p s (a, e)) (k : Nat) : RdIs (w.setCell ⟨p, 1, none⟩ (.int .i64 (k : Nat))) p s (k, e) := by
 have := Go.Mine.heap_setCell_same (o := 1) h (.int .i64 (k : Nat))
 exact this
theorem ba_ne (m : ByteArray) (bs : List UInt8) (h : m ≠ ⟨bs.toArray⟩) : (m.toList == bs) = false := by
 rw [ByteArray.toList_eq]
 simp only [beq_eq_false_iff_ne, ne_eq]
 intro q
 exact h (by rw [← q])
theorem ba_ne2 (m k : ByteArray) (h : m ≠ k) : (m.toList == k.toList) = false := by
 rw [ByteArray.toList_eq, ByteArray.toList_eq]
 simp only [beq_eq_false_iff_ne, ne_eq]
 intro q
 exact h (ByteArray.ext (Array.toList_inj.1 q))
def openR (t m : ByteArray) : Nat :=
 if t.size < 10 then 2 else if t.extract 0 5 ≠ m then 3 else if sealed (t.extract 0 (t.size - 4)) ≠ t then 4 else 0
set_option maxHeartbeats 1000000 in
theorem opened_any (t m : ByteArray) (w : World) (hs : t.size ≤ 4611686018427387904) : Calls Tryz.prog 268 #[.string t, .string m] w fun e w' => e = .returned (.int .i64 (openR t m : Nat)) ∧ Turned (fun _ => False) w w' := by
 by_cases h2 : t.size < 10
 ·have hd3 : decide ((t.size : Int) < 10) = true := by simp; omega
  have hd4 : decide (t.size < 10) = true := by simp; omega
  have HR : Hid (openR t m = 2) := by
   have : openR t m = 2 := by unfold openR; rw [if_pos h2]
   exact this
  rw [HR.out]
  clear hs h2
  go_enter Tryz.func268, Tryz.ntmps268
  go_wp2
  go_ret
  exact ⟨rfl, Turned.refl _ _⟩
 have hd3 : decide ((t.size : Int) < 10) = false := by simp; omega
 have hd4 : decide (t.size < 10) = false := by simp; omega
 have hw : wrap64 ((t.size : Int) - 4) = ((t.size - 4 : Nat) : Int) := by simp [wrap64]; omega
 have hsl1 : ∀ W, (Instr.slice 9 (.string t) none (some (.int .i64 5)) none).run Tryz.prog W = .ok (.string (t.extract 0 5)) W := fun W => by
  have := run_slice_string_h (P := Tryz.prog) W 9 t Tryz.underlying9 .i64 5 (by omega) (by omega)
  exact this
 by_cases h3 : t.extract 0 5 = m
 ·rw [h3] at hsl1
  have hsl3 : ∀ W, (Instr.slice 9 (.string t) none (some (.int .i64 (wrap64 ((t.size : Int) - 4)))) none).run Tryz.prog W = .ok (.string (t.extract 0 (t.size - 4))) W := fun W => by
   rw [hw]
   have := run_slice_string_h (P := Tryz.prog) W 9 t Tryz.underlying9 .i64 ((t.size - 4 : Nat) : Int) (by omega) (by omega)
   rw [Int.toNat_natCast] at this
   exact this
  have z3 : (t.extract 0 (t.size - 4)).size ≤ 4611686018427387904 := by rw [ByteArray.size_extract]; omega
  have hse := sealed_any (t.extract 0 (t.size - 4)) w z3
  by_cases h4 : sealed (t.extract 0 (t.size - 4)) = t
  ·have HR : Hid (openR t m = 0) := by
    have : openR t m = 0 := by unfold openR; rw [if_neg h2, if_neg (by simp [h3]), if_neg (by simp [h4])]
    exact this
   rw [HR.out]
   rw [h4] at hse
   generalize t.extract 0 (t.size - 4) = s3 at *
   clear hs h2 h3 h4 hw z3
   go_enter Tryz.func268, Tryz.ntmps268
   go_wp2_with (go_at_call 280; (with_reducible refine hse.mono ?_); rintro e w1 ⟨rfl, ht1⟩)
   go_ret
   exact ⟨rfl, ht1⟩
  ·have HR : Hid (openR t m = 4) := by
    have : openR t m = 4 := by unfold openR; rw [if_neg h2, if_neg (by simp [h3]), if_pos h4]
    exact this
   rw [HR.out]
   have hne := ba_ne2 _ _ h4
   generalize sealed (t.extract 0 (t.size - 4)) = s4 at *
   generalize t.extract 0 (t.size - 4) = s3 at *
   clear hs h2 h3 h4 hw z3
   go_enter Tryz.func268, Tryz.ntmps268
   go_wp2_with (go_at_call 280; (with_reducible refine hse.mono ?_); rintro e w1 ⟨rfl, ht1⟩)
   go_ret
   exact ⟨rfl, ht1⟩
 ·have HR : Hid (openR t m = 3) := by
   have : openR t m = 3 := by unfold openR; rw [if_neg h2, if_pos h3]
   exact this
  rw [HR.out]
  have hne := ba_ne2 _ _ h3
  generalize t.extract 0 5 = s3 at *
  clear hs h2 h3 hw
  go_enter Tryz.func268, Tryz.ntmps268
  go_wp2
  go_ret
  exact ⟨rfl, Turned.refl _ _⟩
end Go.Proofs.YtofcogekgcgjhaaGreatDoor
namespace Go.Mine.Ac
open Go.Mine
/-! ### Settings, hashes, places -/
structure Stg where
 h : Int
 p : Int
 m : Int
 seed : Nat
def goodStg (s : Stg) : Prop := 1 ≤ s.h ∧ s.h ≤ 16 ∧ 1 ≤ s.p ∧ s.p ≤ 64 ∧ 0 ≤ s.m ∧ s.m ≤ 512
instance (s : Stg) : Decidable (goodStg s) := by unfold goodStg; infer_instance
def feedH (h : Nat) (b : UInt8) : Nat := (h ^^^ b.toNat) * 16777619 % 4294967296
def mixH (h : Nat) : Nat :=
 let h1 := (h ^^^ (h >>> 16)) * 2246822507 % 4294967296
 let h2 := (h1 ^^^ (h1 >>> 13)) * 3266489909 % 4294967296
 h2 ^^^ (h2 >>> 16)
def hashB (seed : Nat) (path : ByteArray) : Nat := mixH (path.data.toList.foldl feedH (2166136261 ^^^ seed))
def placeB (s : Stg) (path : ByteArray) (n i : Nat) : Nat := (hashB s.seed path + i * (hashB ((s.seed + 1) % 4294967296) path ||| 1)) % 4294967296 % n
def placesB (s : Stg) (path : ByteArray) (n : Nat) : List Nat := if goodStg s ∧ 1 ≤ n ∧ n ≤ 4294967295 then (List.range s.h.toNat).map (placeB s path n) else []
/-! ### Filters -/
def once : List ByteArray → List ByteArray
 | [] => []
 | x :: l => if l.any (fun y => decide (y = x)) = true then once l else x :: once l
def bitsB (n : Nat) (P : Nat → Bool) : ByteArray := ⟨((List.range n).map fun j => UInt8.ofNat ((List.range 8).foldl (fun v k => if P (8 * j + k) then v + 2 ^ k else v) 0)).toArray⟩
def manyB (s : Stg) (k : Nat) : Nat := max 1 ((k * s.p.toNat + 7) / 8)
structure Flt where
 state : Int
 bits : ByteArray
def makeF (s : Stg) (paths : List ByteArray) : Flt :=
 let u := once paths
 if s.m.toNat < u.length then ⟨2, ⟨#[]⟩⟩
 else ⟨1, bitsB (manyB s u.length) fun j => u.any fun x => decide (j ∈ placesB s x (8 * manyB s u.length))⟩
def diffP : List Ent → List Ent → List ByteArray
 | [], b => b.map (·.1)
 | x :: a, [] => (x :: a).map (·.1)
 | x :: a, y :: b =>
  if ltB x.1 y.1 then x.1 :: diffP a (y :: b)
  else if ltB y.1 x.1 then y.1 :: diffP (x :: a) b
  else if x.2 = y.2 then diffP a b else x.1 :: diffP a b
termination_by a b => a.length + b.length
def ofF (s : Stg) (old now : List Ent) : Flt := makeF s (diffP old now)
def bitOf (b : ByteArray) (j : Nat) : Bool := ((b.data.toList[j / 8]?.getD 0).toNat >>> (j % 8)) % 2 = 1
def mayF (s : Stg) (f : Flt) (path : ByteArray) : Bool := f.state ≠ 1 || (placesB s path (8 * f.bits.size)).all fun j => bitOf f.bits j
/-! ### Generations -/
def counted (n : Int) : Int := if 1023 < n then 1024 else max n 1
def nextG (l : List Int) : Int :=
 let h := l.foldl (fun h p => max h (counted p)) 0
 if 1023 ≤ h then h else h + 1
end Go.Mine.Ac
namespace Go.Proofs.YtofcogekgcgjhaaGreatDoor
open Go.RowKit Go.Mine
abbrev Ch := Nat × ByteArray
def ChIs (w : World) (a : Option Addr) (cap : Nat) (l : List Ch) : Prop :=
 l.length ≤ cap ∧ cap ≤ maxLen ∧ (∀ c ∈ l, c.1 < 4294967296 ∧ c.2.size ≤ 140737488355328) ∧ (0 < l.length → ∃ b off, a = some ⟨b, off, none⟩ ∧ b < w.heap.size ∧
  ∀ i c, l[i]? = some c → w.cell? ⟨b, off + i * 2, none⟩ = some (.int .u32 (c.1 : Nat)) ∧ w.cell? ⟨b, off + i * 2 + 1, none⟩ = some (.string c.2))
theorem ChIs.turned {w w' : World} {a : Option Addr} {cap : Nat} {l : List Ch} (h : ChIs w a cap l) (ht : Turned (fun _ => False) w w') : ChIs w' a cap l := by
 refine ⟨h.1, h.2.1, h.2.2.1, fun h0 => ?_⟩
 obtain ⟨b, off, h1, h2, h3⟩ := h.2.2.2 h0
 refine ⟨b, off, h1, Nat.lt_of_lt_of_le h2 ht.size, fun i c hi => ?_⟩
 rw [World.cell?_of_block (w' := w') (ht.block b h2 fun q => q), World.cell?_of_block (w' := w') (ht.block b h2 fun q => q)]
 exact h3 i c hi
def cmpV (a b : Nat) : Int := if a < b then -1 else if b < a then 1 else 0
theorem nan_any (a : Nat) (w : World) : Calls Tryz.prog 333 #[.int .u32 a] w fun e w' => e = .returned (.bool false) ∧ w = w' := by
 go_enter Tryz.func333, Tryz.ntmps333
 go_wp2
 go_ret
 exact ⟨rfl, rfl⟩
set_option maxHeartbeats 1000000 in
theorem compare_any (a b : Nat) (w : World) : Calls Tryz.prog 302 #[.int .u32 a, .int .u32 b] w fun e w' => e = .returned (.int .i64 (cmpV a b)) ∧ w = w' := by
 have hn := fun c => nan_any c w
 rcases Nat.lt_trichotomy a b with h | h | h
 ·have e1 : cmpV a b = -1 := by simp [cmpV, h]
  rw [e1]
  clear e1
  go_enter Tryz.func302, Tryz.ntmps302
  go_wp2_with (go_at_call 333; (with_reducible refine (hn _).mono ?_); rintro e w' ⟨rfl, rfl⟩)
  go_ret
  exact ⟨rfl, rfl⟩
 ·subst h
  have e1 : cmpV a a = 0 := by simp [cmpV]
  rw [e1]
  clear e1
  go_enter Tryz.func302, Tryz.ntmps302
  go_wp2_with (go_at_call 333; (with_reducible refine (hn _).mono ?_); rintro e w' ⟨rfl, rfl⟩)
  go_ret
  exact ⟨rfl, rfl⟩
 ·have e1 : cmpV a b = 1 := by simp [cmpV, h]; omega
  have h2 : ¬ a < b := by omega
  rw [e1]
  clear e1
  go_enter Tryz.func302, Tryz.ntmps302
  go_wp2_with (go_at_call 333; (with_reducible refine (hn _).mono ?_); rintro e w' ⟨rfl, rfl⟩)
  go_ret
  exact ⟨rfl, rfl⟩
end Go.Proofs.YtofcogekgcgjhaaGreatDoor
namespace Go.Proofs.YtofcogekgcgjhaaGreatDoor
open Go.RowKit Go.Mine Go.Mine.Ac
theorem file_ok {D : Dk} {name : ByteArray} {k : Nat} (h : D.file name = .ok k) : D.off = false ∧ findN D.seen name = some k := by
 unfold Dk.file at h
 cases ho : D.off with
 | true => rw [ho] at h; simp at h
 | false =>
  rw [ho] at h
  cases hf : findN D.seen name with
  | none => rw [hf] at h; simp at h
  | some j => rw [hf] at h; simp at h; exact ⟨rfl, by rw [h]⟩
theorem file_err {D : Dk} {name : ByteArray} {k : Nat} (h : D.file name = .error k) : k ≠ 0 := by
 unfold Dk.file at h
 split at h
 ·injection h with h; omega
 ·split at h
  ·injection h with h; omega
  ·simp at h
theorem FsAt.live {w : World} {rl : Nat → Nat} {d ms mf : Nat} {pv : Value} {F : Nat → Nat} {D : Dk} (h : FsAt w rl d ms mf pv F D) {name : ByteArray} {k : Nat} (hk : D.file name = .ok k) :
  ∃ x, D.files[k]? = some x ∧ D.at k = x ∧ FileAt w rl F k x := by
 obtain ⟨x, h1, h2⟩ := h.file k (.inl ⟨(name, k), findN_mem (file_ok hk).2, rfl⟩)
 exact ⟨x, h1, by simp [Dk.at, h1], h2⟩
theorem fread_any {w : World} {rl : Nat → Nat} {d ms mf : Nat} {pv : Value} {F : Nat → Nat} {D : Dk} (h : FsAt w rl d ms mf pv F D) (name : ByteArray) :
  Calls Tryz.prog 27 #[pt d, .string name] w fun e w' => e = .returned (.tuple #[.string (D.read name).1, .int .i64 ((D.read name).2 : Nat)]) ∧ w = w' := by
 have hfi := ffind_any h name
 cases hf : D.file name with
 | error k =>
  have HK : Hid (k ≠ 0) := file_err hf
  have HR : Hid (D.read name = (emp, k)) := hidS (by simp [Dk.read, hf])
  have hk0 : ((k : Int) != 0) = true := by have := HK.out; simp; omega
  rw [hf] at hfi
  replace hfi : Calls Tryz.prog 88 #[pt d, .string name] w fun e w' => e = .returned (.tuple #[.pointer none, .int .i64 (k : Nat)]) ∧ w = w' := hfi
  clear h hf
  rw [HR.out]
  go_enter Tryz.func27, Tryz.ntmps27
  go_wp2_with (go_at_call 88; (with_reducible refine hfi.mono ?_); rintro e w' ⟨rfl, rfl⟩)
  go_ret2
  exact ⟨rfl, rfl⟩
 | ok k =>
  obtain ⟨x, h1, h2, h3⟩ := h.live hf
  have HR : Hid (D.read name = (x.bytes, 0)) := hidS (by simp [Dk.read, hf, h2])
  obtain ⟨-, bv, hb, hs⟩ := h3
  have c1 := cell_of hb 1 _ rfl
  have hlt := lt_of_block hb
  have hbk := sl_back (bs := x.bytes.data.toList) (by simpa using hs)
  rw [hf] at hfi
  replace hfi : Calls Tryz.prog 88 #[pt d, .string name] w fun e w' => e = .returned (.tuple #[pt (F k), .int .i64 0]) ∧ w = w' := hfi
  clear h hf h1 h2 hb hs
  rw [HR.out]
  go_enter Tryz.func27, Tryz.ntmps27
  go_wp2_with (go_at_call 88; (with_reducible refine hfi.mono ?_); rintro e w' ⟨rfl, rfl⟩)
  go_ret2
  exact ⟨rfl, rfl⟩
theorem foff_any {w : World} {rl : Nat → Nat} {d ms mf : Nat} {pv : Value} {F : Nat → Nat} {D : Dk} (h : FsAt w rl d ms mf pv F D) :
  Calls Tryz.prog 53 #[pt d] w fun e w' => e = .returned (.bool D.off) ∧ w = w' := by
 have c6 := cell_of h.blk 6 _ rfl
 have hlt := lt_of_block h.blk
 clear h
 generalize D.off = o at *
 go_enter Tryz.func53, Tryz.ntmps53
 go_wp2
 go_ret
 exact ⟨rfl, rfl⟩
theorem nodup_map {α β : Type} (f : α → β) (hf : ∀ a b, f a = f b → a = b) : ∀ {l : List α}, l.Nodup → (l.map f).Nodup
 | [], _ => by simp
 | x :: l, h => by
  obtain ⟨h1, h2⟩ := List.nodup_cons.1 h
  rw [List.map_cons, List.nodup_cons]
  refine ⟨fun q => ?_, nodup_map f hf h2⟩
  obtain ⟨y, hy, e⟩ := List.mem_map.1 q
  exact h1 (hf _ _ e ▸ hy)
theorem mapN_count {w : World} {b n : Nat} {m : Value → Option Value} (h : MapIs KStr w b m n) {F : Nat → Nat} {l : Nms} (hm : ∀ k, m k = mapN F l k) (hn : (l.map (·.1)).Nodup) : n = l.length := by
 obtain ⟨es, clock, h1, h2, h3, h4, h5, h6⟩ := h
 have n1 : (es.toList.map (·.key)).Nodup := by
  rw [List.nodup_iff_pairwise_ne, List.pairwise_map]
  exact h5
 have n2 : ((l.map (·.1)).map Value.string).Nodup := nodup_map _ (fun a b q => by injection q) hn
 have hp : (es.toList.map (·.key)).Perm ((l.map (·.1)).map Value.string) := by
  rw [List.perm_ext_iff_of_nodup n1 n2]
  intro k
  constructor
  ·intro hk
   obtain ⟨e, he, rfl⟩ := List.mem_map.1 hk
   have := h3 e he
   rw [hm] at this
   cases hke : e.key with
   | string s =>
    rw [hke] at this
    obtain ⟨j, hj, -⟩ := Option.map_eq_some_iff.1 this
    exact List.mem_map.2 ⟨s, List.mem_map.2 ⟨_, findN_mem hj, rfl⟩, rfl⟩
   | _ => rw [hke] at this; simp [mapN] at this
  ·intro hk
   obtain ⟨s, hs, rfl⟩ := List.mem_map.1 hk
   obtain ⟨x, hx, rfl⟩ := List.mem_map.1 hs
   have := findN_of_mem hn (show (x.1, x.2) ∈ l from hx)
   obtain ⟨e, he, hk⟩ := h4 (.string x.1) (pt (F x.2)) (by rw [hm]; simp [mapN, this])
   exact List.mem_map.2 ⟨e, he, hk⟩
 have := hp.length_eq
 simpa [h6] using this
open Classical in
theorem mapN_changed (F : Nat → Nat) (l : Nms) (c : Chg) (hne : ∀ x ∈ l, x.1 ≠ emp) (k : Value) :
  mapN F (changed l c) k = (if c.come = emp then (if k = .string (if c.gone = emp then c.come else c.gone) then none else mapN F l k) else if k = .string c.come then some (pt (F c.file)) else if k = .string (if c.gone = emp then c.come else c.gone) then none else mapN F l k) := by
 cases k with
 | string s =>
  simp only [mapN, findN_changed, Value.string.injEq]
  have he : findN l emp = none := findN_none.2 fun q => by
   obtain ⟨x, hx, e⟩ := List.mem_map.1 q
   exact hne x hx e
  by_cases h1 : c.come = emp
  ·rw [if_pos h1]
   by_cases h2 : c.gone = emp
   ·rw [if_pos h2, h1]
    by_cases h3 : s = emp <;> simp [h3, h1, h2, he]
   ·rw [if_neg h2, h1]
    by_cases h3 : s = emp
    ·simp [h3, he]
    ·by_cases h4 : s = c.gone <;> simp [h3, h4]
  ·rw [if_neg h1]
   by_cases h3 : s = c.come
   ·simp [h3, h1]
   ·rw [if_neg h3, if_neg h3]
    by_cases h2 : c.gone = emp
    ·rw [if_pos h2, if_neg h3, h2]
     by_cases h4 : s = emp
     ·simp [h4, he]
     ·simp [h4]
    ·rw [if_neg h2]
     by_cases h4 : s = c.gone <;> simp [h4]
 | _ => simp [mapN]
theorem alloc_old {w : World} {b : Nat} (o : Obj) (hb : b < w.heap.size) : (w.alloc o).heap[b]? = w.heap[b]? := (Turned.alloc (fun _ => False) w o).block b hb id
def DoPost (w : World) (m : Nat) (F : Nat → Nat) (l : Nms) (c : Chg) (e : Ending) (w' : World) : Prop :=
  e = .returned (.tuple #[]) ∧ MapIs KStr w' m (mapN F (changed l c)) (changed l c).length ∧ Turned (· = m) w w' ∧ w'.heap.size = w.heap.size + 1 ∧ Births w' m
set_option maxHeartbeats 1000000 in
theorem fdo_any {w : World} {m : Nat} {F : Nat → Nat} {l : Nms} (c : Chg) (h : MapIs KStr w m (mapN F l) l.length) (hB : Births w m) (hn : (l.map (·.1)).Nodup) (hne : ∀ x ∈ l, x.1 ≠ emp) :
    Calls Tryz.prog 89 #[.agg (pcell F c).toArray, .map (some m)] w (DoPost w m F l c) := by
  have MC := mapN_changed F l c hne
  have HN : Hid (((changed l c).map (·.1)).Nodup) := changed_nodup c hn
  obtain ⟨g, hg⟩ : ∃ g, g = if c.gone = emp then c.come else c.gone := ⟨_, rfl⟩
  obtain ⟨L, hL⟩ : ∃ L, L = changed l c := ⟨_, rfl⟩
  obtain ⟨D, hD⟩ : ∃ D, D = DoPost w m F l c := ⟨_, rfl⟩
  have HD : Hid (D = DoPost w m F l c) := hD
  have HL : Hid (L = changed l c) := hL
  rw [← hD]
  have hlt := h.lt
  have hB1 : ∀ o, Births (w.alloc o) m := fun o => hB.congr (alloc_old o hlt)
  replace hB1 : Hid (∀ o, Births (w.alloc o) m) := hB1
  clear hB
  by_cases hc : c.come = emp
  · have hp : (pcell F c).toArray = #[.string g, .string emp, .pointer none] := by simp [pcell, hg, hc]
    rw [hp]
    have hm1 : MapIs KStr (w.alloc (.cells #[.string g, .string emp, .pointer none] 159)) m (mapN F l) l.length := h.congr (alloc_old _ hlt) fun _ => rfl
    have MC2 : Hid (∀ k, mapN F (changed l c) k = (by classical exact if k = .string g then none else mapN F l k)) := hidS fun k => by
      rw [MC k, if_pos hc, ← hg]
    have HC : Hid (c.come = emp) := hc
    clear MC hg hL hD h hc hp hn hne
    go_enter Tryz.func89, Tryz.ntmps89
    go_wp2_with (first | (at_delete; refine wpList_deleteB rfl _ _ 145 9 rfl 153 keyStr Tryz.underlying145 hm1 (hB1.out _) rfl (.string g) rfl (kstr _) ?_; intro w2 hm2 hb2 ht2 hz2; have k2 := cell_of ((ht2.block w.heap.size (by simp) (by omega)).trans (heap_alloc_new w _)) 2 _ rfl; have M2 : Hid (MapIs KStr w2 m (fun y => by classical exact if y = .string g then none else mapN F l y) _ ∧ Turned (· = m) _ w2 ∧ w2.heap.size = _ ∧ Births w2 m) := hidS ⟨hm2, ht2, hz2, hb2⟩; clear hm2 ht2 hz2 hb2))
    go_end0
    rw [HD.out]
    have hcnt := mapN_count M2.out.1 (fun k => (MC2.out k).symm) HN.out
    have hm3 := M2.out.1
    rw [hcnt] at hm3
    exact ⟨rfl, hm3.congr rfl MC2.out, (Turned.alloc (· = m) w _).trans M2.out.2.1 fun _ _ q => q, by rw [M2.out.2.2.1]; simp, M2.out.2.2.2⟩
  · have hp : (pcell F c).toArray = #[.string g, .string c.come, pt (F c.file)] := by simp [pcell, hg, hc]
    rw [hp]
    have hm1 : MapIs KStr (w.alloc (.cells #[.string g, .string c.come, pt (F c.file)] 159)) m (mapN F l) l.length := h.congr (alloc_old _ hlt) fun _ => rfl
    have MC2 : Hid (∀ k, mapN F (changed l c) k = (by classical exact if k = .string c.come then some (pt (F c.file)) else if k = .string g then none else mapN F l k)) := hidS fun k => by
      rw [MC k, if_neg hc, ← hg]
    have HC : Hid (¬ c.come = emp) := hc
    obtain ⟨z, hz⟩ : ∃ z, z = c.come := ⟨_, rfl⟩
    have HZ : Hid (z = c.come) := hz
    obtain ⟨f, hf⟩ : ∃ f, f = F c.file := ⟨_, rfl⟩
    have HF : Hid (f = F c.file) := hf
    rw [← hz, ← hf] at hm1 ⊢
    clear MC hg hL hD h hc hp hn hne hz hf
    go_enter Tryz.func89, Tryz.ntmps89
    go_wp2_with (first
      | (at_delete; refine wpList_deleteB rfl _ _ 145 9 rfl 153 keyStr Tryz.underlying145 hm1 (hB1.out _) rfl (.string g) rfl (kstr _) ?_; intro w2 hm2 hb2 ht2 hz2
         have k0 := cell_of ((ht2.block w.heap.size (by simp) (by omega)).trans (heap_alloc_new w _)) 0 _ rfl
         have k1 := cell_of ((ht2.block w.heap.size (by simp) (by omega)).trans (heap_alloc_new w _)) 1 _ rfl
         have k2 := cell_of ((ht2.block w.heap.size (by simp) (by omega)).trans (heap_alloc_new w _)) 2 _ rfl
         have M2 : Hid (MapIs KStr w2 m (fun y => by classical exact if y = .string g then none else mapN F l y) _ ∧ Turned (· = m) _ w2 ∧ w2.heap.size = _ ∧ Births w2 m) := hidS ⟨hm2, ht2, hz2, hb2⟩; clear ht2 hz2 hb2)
      | (at_mapUpdate; go_must (refine wpList_updateB rfl _ _ _ 145 rfl 9 153 keyStr Tryz.underlying145 hm2 M2.out.2.2.2 rfl (.string z) (pt f) rfl rfl (kstr _) ?_); intro w3 hm3 hb3 ht3 hz3
         have M3 : Hid (MapIs KStr w3 m _ _ ∧ Turned (· = m) w2 w3 ∧ w3.heap.size = w2.heap.size ∧ Births w3 m) := hidS ⟨hm3, ht3, hz3, hb3⟩; clear hm3 ht3 hz3 hb3))
    go_end0
    rw [HD.out]
    have MC3 : ∀ k, mapN F (changed l c) k = (by classical exact if k = .string z then some (pt f) else if k = .string g then none else mapN F l k) := fun k => by rw [MC2.out k, HZ.out, HF.out]
    have hcnt := mapN_count M3.out.1 (fun k => (MC3 k).symm) HN.out
    have hm4 := M3.out.1
    rw [hcnt] at hm4
    exact ⟨rfl, hm4.congr rfl MC3, ((Turned.alloc (· = m) w _).trans M2.out.2.1 fun _ _ q => q).trans M3.out.2.1 fun _ _ q => q, by rw [M3.out.2.2.1, M2.out.2.2.1]; simp, M3.out.2.2.2⟩
end Go.Proofs.YtofcogekgcgjhaaGreatDoor
